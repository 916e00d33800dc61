/- What the operations of package frame do to a frame's block. slices.Clone at []int and []int64: a row of its own with the same numbers. What reckon of package frame does to a frame's block, operation by operation. No conditions. -/
import Derived.Test.YtimmglnbjgbbjaaBase
set_option linter.unusedSimpArgs false
set_option linter.unusedVariables false
namespace Go.Proofs.Ytimmglnbjgbbjaa
open Go.RowKit Go.Proofs.YtimmglnbjgbbjaaW.PrintWords
/-- A frame, but for its path. -/
structure Fr where
  fn : Int
  at_ : Int
  steps : Int
  kids : Int
  R : Nat → Int
  H : Nat → Int
def upd (R : Nat → Int) (a : Nat) (v : Int) : Nat → Int := fun i => if i = a then v else R i
/-- A frame's block. -/
def FrB (pv : Value) (f : Fr) : Array Value := #[.int .i64 f.fn, .int .i64 f.at_, .int .i64 f.steps, .int .i64 f.kids, pv, .int .i64 (f.R 0), .int .i64 (f.R 1), .int .i64 (f.R 2), .int .i64 (f.R 3), .int .i64 (f.R 4), .int .i64 (f.R 5), .int .i64 (f.R 6), .int .i64 (f.R 7), .int .i64 (f.H 0), .int .i64 (f.H 1), .int .i64 (f.H 2), .int .i64 (f.H 3)]
/-- An effect. -/
def effV (kind value reg fn hand why : Int) (args path : Value) : Value := .agg #[.int .i64 kind, .int .i64 value, .int .i64 reg, .int .i64 fn, .int .i64 hand, .int .i64 why, args, path]
abbrev nilV : Value := .slice none 0 0
theorem FrB_reg {pv : Value} {f : Fr} {a : Nat} (ha : a < 8) : (FrB pv f)[5 + a]? = some (.int .i64 (f.R a)) := by
  rcases show a = 0 ∨ a = 1 ∨ a = 2 ∨ a = 3 ∨ a = 4 ∨ a = 5 ∨ a = 6 ∨ a = 7 from by omega with h | h | h | h | h | h | h | h
  all_goals (subst h; rfl)
theorem FrB_hand {pv : Value} {f : Fr} {a : Nat} (ha : a < 4) : (FrB pv f)[13 + a]? = some (.int .i64 (f.H a)) := by
  rcases show a = 0 ∨ a = 1 ∨ a = 2 ∨ a = 3 from by omega with h | h | h | h
  all_goals (subst h; rfl)
theorem FrB_put {pv : Value} {f : Fr} {a : Nat} (ha : a < 8) (v : Int) : (FrB pv f).setIfInBounds (5 + a) (.int .i64 v) = FrB pv { f with R := upd f.R a v } := by
  rcases show a = 0 ∨ a = 1 ∨ a = 2 ∨ a = 3 ∨ a = 4 ∨ a = 5 ∨ a = 6 ∨ a = 7 from by omega with h | h | h | h | h | h | h | h
  all_goals (subst h; rfl)
/-- The frame's cells, as a walk reads them. -/
theorem fr_cells {w : World} {bf : Nat} {pv : Value} {f : Fr} (h : w.heap[bf]? = some (.cells (FrB pv f) 80 (0, 0))) :
    w.cell? ⟨bf, 0, none⟩ = some (.int .i64 f.fn) ∧ w.cell? ⟨bf, 1, none⟩ = some (.int .i64 f.at_) ∧ w.cell? ⟨bf, 2, none⟩ = some (.int .i64 f.steps) ∧ w.cell? ⟨bf, 3, none⟩ = some (.int .i64 f.kids) ∧ w.cell? ⟨bf, 4, none⟩ = some pv ∧
      (∀ a, a < 8 → w.cell? ⟨bf, 5 + a, none⟩ = some (.int .i64 (f.R a))) ∧ (∀ a, a < 4 → w.cell? ⟨bf, 13 + a, none⟩ = some (.int .i64 (f.H a))) ∧ (∀ o, w.frozen? ⟨bf, o, none⟩ = false) ∧ bf < w.heap.size :=
  ⟨blk_cell h 0, blk_cell h 1, blk_cell h 2, blk_cell h 3, blk_cell h 4, fun a ha => (blk_cell h _).trans (FrB_reg ha), fun a ha => (blk_cell h _).trans (FrB_hand ha), fun o => by simp [World.frozen?, h], blk_lt h⟩
section
variable (P : Value) (bd dp : Int) (bf : Nat) (pv : Value) (f : Fr) (w : World) (hbf : w.heap[bf]? = some (.cells (FrB pv f) 80 (0, 0)))
include hbf
set_option maxHeartbeats 800000 in
theorem set_any (op : Int) (a : Nat) (b c k : Int) (ha : a < 8) :
    Calls Try.prog 72 #[.agg #[P, .int .i64 bd, .int .i64 dp, .pointer (some ⟨bf, 0, none⟩)], .agg #[.int .i64 op, .int .i64 a, .int .i64 b, .int .i64 c, .int .i64 k]] w fun e w' =>
      e = .returned (effV 1 0 0 0 0 0 nilV nilV) ∧ w'.heap[bf]? = some (.cells (FrB pv { f with R := upd f.R a k }) 80 (0, 0)) ∧ Keep (fun x => x = bf) w w' := by
  obtain ⟨cFn, cAt, cSt, cKi, cPa, cR, cH, zF, hlt⟩ := fr_cells hbf
  have l1 : bf < w.heap.size + 1 := by omega
  have l2 : bf < w.heap.size + 1 + 1 := by omega
  have l3 : bf < w.heap.size + 1 + 1 + 1 := by omega
  have ca := cR a ha
  have za := zF (5 + a)
  have a0 : (0 : Int) ≤ (a : Int) := by omega
  have a1 : (a : Int) < 8 := by omega
  clear cR zF cFn cAt cSt cKi cPa cH
  go_enter Try.func72, Try.ntmps72
  go_wp2_with fail
  refine plan_begin (fun _ => False) 9 10 rfl (by kernel_rfl) (fun hSk => ?_)
  (refine plan_q 0 rfl (by kernel_rfl) (by kernel_rfl) (by kernel_rfl) rfl rfl (fun _ _ _ _ h => h) hSk (by decide) (by kernel_rfl) (fun K hK => ?_); go_big_quiet_op; with_reducible refine hK _ ?_; clear hK K)
  (refine plan_q 1 rfl (by kernel_rfl) (by kernel_rfl) (by kernel_rfl) rfl rfl (fun _ _ _ _ h => h) hSk (by decide) (by kernel_rfl) (fun K hK => ?_); go_big_quiet_op; with_reducible refine hK _ ?_; clear hK K)
  (refine plan_q 2 rfl (by kernel_rfl) (by kernel_rfl) (by kernel_rfl) rfl rfl (fun _ _ _ _ h => h) hSk (by decide) (by kernel_rfl) (fun K hK => ?_); go_big_quiet_op; with_reducible refine hK _ ?_; clear hK K)
  (refine plan_q 3 rfl (by kernel_rfl) (by kernel_rfl) (by kernel_rfl) rfl rfl (fun _ _ _ _ h => h) hSk (by decide) (by kernel_rfl) (fun K hK => ?_); go_big_quiet_op; with_reducible refine hK _ ?_; clear hK K)
  (refine plan_q 4 rfl (by kernel_rfl) (by kernel_rfl) (by kernel_rfl) rfl rfl (fun _ _ _ _ h => h) hSk (by decide) (by kernel_rfl) (fun K hK => ?_); go_big_quiet_op; with_reducible refine hK _ ?_; clear hK K)
  (refine plan_q 5 rfl (by kernel_rfl) (by kernel_rfl) (by kernel_rfl) rfl rfl (fun _ _ _ _ h => h) hSk (by decide) (by kernel_rfl) (fun K hK => ?_); go_big_quiet_op; with_reducible refine hK _ ?_; clear hK K)
  (refine plan_q 6 rfl (by kernel_rfl) (by kernel_rfl) (by kernel_rfl) rfl rfl (fun _ _ _ _ h => h) hSk (by decide) (by kernel_rfl) (fun K hK => ?_); go_big_quiet_op; with_reducible refine hK _ ?_; clear hK K)
  (refine plan_q 7 rfl (by kernel_rfl) (by kernel_rfl) (by kernel_rfl) rfl rfl (fun _ _ _ _ h => h) hSk (by decide) (by kernel_rfl) (fun K hK => ?_); go_big_quiet_op; with_reducible refine hK _ ?_; clear hK K)
  (refine plan_q 8 rfl (by kernel_rfl) (by kernel_rfl) (by kernel_rfl) rfl rfl (fun _ _ _ _ h => h) hSk (by decide) (by kernel_rfl) (fun K hK => ?_); go_big_quiet_op; with_reducible refine hK _ ?_; clear hK K)
  (refine plan_l 9 rfl (by kernel_rfl) (fun K hK => ?_); go_wp2_with (fail); (try simp only [Exit.then]); (try simp only [Act.put, List.setIfInBounds_toArray, List.set_cons_succ, List.set_cons_zero]); refine hK _ _ (fun hz0 => by exact absurd rfl hz0) (fun hSk1 => ?_); clear hK K hSk)
  refine plan_e (by kernel_rfl) ?_
  clear hSk1
  go_wp2
  go_returns
  exact ⟨rfl, by ((repeat (first | (with_reducible refine heap_drew1 ?_) | (with_reducible refine heap_lt_alloc ?_))); exact heap_near hbf (FrB_put ha _)), by (repeat (first | with_reducible exact Keep.refl _ _ | (with_reducible refine Keep.left ?_) | (with_reducible refine Keep.leftN ?_) | (with_reducible assumption) | (with_reducible refine Keep.setCell ?_ ?hs _; case hs => (first | (exact .inl rfl) | (simp; done) | (right; omega) | (right; simp; omega))) | (with_reducible refine Keep.allocs ?_ (by simp; done) _) | (with_reducible refine Keep.alloc ?_ _) | (with_reducible refine Keep.drew ?_) | (with_reducible refine Keep.drewN ?_ _) | refine Keep.thenBelow ?_ (by assumption) | refine Keep.grown ?_ (by assumption) (by intro k hk; (first | (cases hk; done) | (exfalso; simp [Value.ownBlock] at hk; done) | (simp [Value.ownBlock] at hk; subst hk; (first | (right; simp; omega) | (left; first | rfl | simp)))) ) | refine Keep.trans ?_ (by assumption) | (with_reducible refine Keep.allocs ?_ (by simp; done) _) | refine Keep.alloc ?_ _ | refine Keep.drew ?_ | refine Keep.drewN ?_ _ | refine Keep.setCell ?_ (by first | (exact .inl rfl) | (simp; done) | (right; omega) | (right; simp; omega)) _))⟩
set_option maxHeartbeats 800000 in
theorem move_any (op : Int) (a b : Nat) (c k : Int) (ha : a < 8) (hb : b < 8) :
    Calls Try.prog 73 #[.agg #[P, .int .i64 bd, .int .i64 dp, .pointer (some ⟨bf, 0, none⟩)], .agg #[.int .i64 op, .int .i64 a, .int .i64 b, .int .i64 c, .int .i64 k]] w fun e w' =>
      e = .returned (effV 1 0 0 0 0 0 nilV nilV) ∧ w'.heap[bf]? = some (.cells (FrB pv { f with R := upd f.R a (f.R b) }) 80 (0, 0)) ∧ Keep (fun x => x = bf) w w' := by
  obtain ⟨cFn, cAt, cSt, cKi, cPa, cR, cH, zF, hlt⟩ := fr_cells hbf
  have l1 : bf < w.heap.size + 1 := by omega
  have l2 : bf < w.heap.size + 1 + 1 := by omega
  have l3 : bf < w.heap.size + 1 + 1 + 1 := by omega
  have ca := cR a ha
  have za := zF (5 + a)
  have a0 : (0 : Int) ≤ (a : Int) := by omega
  have a1 : (a : Int) < 8 := by omega
  have cb := cR b hb
  have zb := zF (5 + b)
  have b0 : (0 : Int) ≤ (b : Int) := by omega
  have b1 : (b : Int) < 8 := by omega
  clear cR zF cFn cAt cSt cKi cPa cH
  go_enter Try.func73, Try.ntmps73
  go_wp2_with fail
  refine plan_begin (fun _ => False) 15 16 rfl (by kernel_rfl) (fun hSk => ?_)
  (refine plan_q 0 rfl (by kernel_rfl) (by kernel_rfl) (by kernel_rfl) rfl rfl (fun _ _ _ _ h => h) hSk (by decide) (by kernel_rfl) (fun K hK => ?_); go_big_quiet_op; with_reducible refine hK _ ?_; clear hK K)
  (refine plan_q 1 rfl (by kernel_rfl) (by kernel_rfl) (by kernel_rfl) rfl rfl (fun _ _ _ _ h => h) hSk (by decide) (by kernel_rfl) (fun K hK => ?_); go_big_quiet_op; with_reducible refine hK _ ?_; clear hK K)
  (refine plan_q 2 rfl (by kernel_rfl) (by kernel_rfl) (by kernel_rfl) rfl rfl (fun _ _ _ _ h => h) hSk (by decide) (by kernel_rfl) (fun K hK => ?_); go_big_quiet_op; with_reducible refine hK _ ?_; clear hK K)
  (refine plan_q 3 rfl (by kernel_rfl) (by kernel_rfl) (by kernel_rfl) rfl rfl (fun _ _ _ _ h => h) hSk (by decide) (by kernel_rfl) (fun K hK => ?_); go_big_quiet_op; with_reducible refine hK _ ?_; clear hK K)
  (refine plan_q 4 rfl (by kernel_rfl) (by kernel_rfl) (by kernel_rfl) rfl rfl (fun _ _ _ _ h => h) hSk (by decide) (by kernel_rfl) (fun K hK => ?_); go_big_quiet_op; with_reducible refine hK _ ?_; clear hK K)
  (refine plan_q 5 rfl (by kernel_rfl) (by kernel_rfl) (by kernel_rfl) rfl rfl (fun _ _ _ _ h => h) hSk (by decide) (by kernel_rfl) (fun K hK => ?_); go_big_quiet_op; with_reducible refine hK _ ?_; clear hK K)
  (refine plan_q 6 rfl (by kernel_rfl) (by kernel_rfl) (by kernel_rfl) rfl rfl (fun _ _ _ _ h => h) hSk (by decide) (by kernel_rfl) (fun K hK => ?_); go_big_quiet_op; with_reducible refine hK _ ?_; clear hK K)
  (refine plan_q 7 rfl (by kernel_rfl) (by kernel_rfl) (by kernel_rfl) rfl rfl (fun _ _ _ _ h => h) hSk (by decide) (by kernel_rfl) (fun K hK => ?_); go_big_quiet_op; with_reducible refine hK _ ?_; clear hK K)
  (refine plan_q 8 rfl (by kernel_rfl) (by kernel_rfl) (by kernel_rfl) rfl rfl (fun _ _ _ _ h => h) hSk (by decide) (by kernel_rfl) (fun K hK => ?_); go_big_quiet_op; with_reducible refine hK _ ?_; clear hK K)
  (refine plan_q 9 rfl (by kernel_rfl) (by kernel_rfl) (by kernel_rfl) rfl rfl (fun _ _ _ _ h => h) hSk (by decide) (by kernel_rfl) (fun K hK => ?_); go_big_quiet_op; with_reducible refine hK _ ?_; clear hK K)
  (refine plan_q 10 rfl (by kernel_rfl) (by kernel_rfl) (by kernel_rfl) rfl rfl (fun _ _ _ _ h => h) hSk (by decide) (by kernel_rfl) (fun K hK => ?_); go_big_quiet_op; with_reducible refine hK _ ?_; clear hK K)
  (refine plan_q 11 rfl (by kernel_rfl) (by kernel_rfl) (by kernel_rfl) rfl rfl (fun _ _ _ _ h => h) hSk (by decide) (by kernel_rfl) (fun K hK => ?_); go_big_quiet_op; with_reducible refine hK _ ?_; clear hK K)
  (refine plan_q 12 rfl (by kernel_rfl) (by kernel_rfl) (by kernel_rfl) rfl rfl (fun _ _ _ _ h => h) hSk (by decide) (by kernel_rfl) (fun K hK => ?_); go_big_quiet_op; with_reducible refine hK _ ?_; clear hK K)
  (refine plan_q 13 rfl (by kernel_rfl) (by kernel_rfl) (by kernel_rfl) rfl rfl (fun _ _ _ _ h => h) hSk (by decide) (by kernel_rfl) (fun K hK => ?_); go_big_quiet_op; with_reducible refine hK _ ?_; clear hK K)
  (refine plan_q 14 rfl (by kernel_rfl) (by kernel_rfl) (by kernel_rfl) rfl rfl (fun _ _ _ _ h => h) hSk (by decide) (by kernel_rfl) (fun K hK => ?_); go_big_quiet_op; with_reducible refine hK _ ?_; clear hK K)
  (refine plan_l 15 rfl (by kernel_rfl) (fun K hK => ?_); go_wp2_with (fail); (try simp only [Exit.then]); (try simp only [Act.put, List.setIfInBounds_toArray, List.set_cons_succ, List.set_cons_zero]); refine hK _ _ (fun hz0 => by exact absurd rfl hz0) (fun hSk1 => ?_); clear hK K hSk)
  refine plan_e (by kernel_rfl) ?_
  clear hSk1
  go_wp2
  go_returns
  exact ⟨rfl, by ((repeat (first | (with_reducible refine heap_drew1 ?_) | (with_reducible refine heap_lt_alloc ?_))); exact heap_near hbf (FrB_put ha _)), by (repeat (first | with_reducible exact Keep.refl _ _ | (with_reducible refine Keep.left ?_) | (with_reducible refine Keep.leftN ?_) | (with_reducible assumption) | (with_reducible refine Keep.setCell ?_ ?hs _; case hs => (first | (exact .inl rfl) | (simp; done) | (right; omega) | (right; simp; omega))) | (with_reducible refine Keep.allocs ?_ (by simp; done) _) | (with_reducible refine Keep.alloc ?_ _) | (with_reducible refine Keep.drew ?_) | (with_reducible refine Keep.drewN ?_ _) | refine Keep.thenBelow ?_ (by assumption) | refine Keep.grown ?_ (by assumption) (by intro k hk; (first | (cases hk; done) | (exfalso; simp [Value.ownBlock] at hk; done) | (simp [Value.ownBlock] at hk; subst hk; (first | (right; simp; omega) | (left; first | rfl | simp)))) ) | refine Keep.trans ?_ (by assumption) | (with_reducible refine Keep.allocs ?_ (by simp; done) _) | refine Keep.alloc ?_ _ | refine Keep.drew ?_ | refine Keep.drewN ?_ _ | refine Keep.setCell ?_ (by first | (exact .inl rfl) | (simp; done) | (right; omega) | (right; simp; omega)) _))⟩
set_option maxHeartbeats 800000 in
theorem jump_any (op a b c k : Int) :
    Calls Try.prog 75 #[.agg #[P, .int .i64 bd, .int .i64 dp, .pointer (some ⟨bf, 0, none⟩)], .agg #[.int .i64 op, .int .i64 a, .int .i64 b, .int .i64 c, .int .i64 k]] w fun e w' =>
      e = .returned (effV 1 0 0 0 0 0 nilV nilV) ∧ w'.heap[bf]? = some (.cells (FrB pv { f with at_ := k }) 80 (0, 0)) ∧ Keep (fun x => x = bf) w w' := by
  obtain ⟨cFn, cAt, cSt, cKi, cPa, cR, cH, zF, hlt⟩ := fr_cells hbf
  have l1 : bf < w.heap.size + 1 := by omega
  have l2 : bf < w.heap.size + 1 + 1 := by omega
  have l3 : bf < w.heap.size + 1 + 1 + 1 := by omega
  have z1 := zF 1
  clear cR zF cFn cSt cKi cPa cH
  go_enter Try.func75, Try.ntmps75
  go_wp2
  go_returns
  exact ⟨rfl, by ((repeat (first | (with_reducible refine heap_drew1 ?_) | (with_reducible refine heap_lt_alloc ?_))); exact heap_near hbf rfl), by (repeat (first | with_reducible exact Keep.refl _ _ | (with_reducible refine Keep.left ?_) | (with_reducible refine Keep.leftN ?_) | (with_reducible assumption) | (with_reducible refine Keep.setCell ?_ ?hs _; case hs => (first | (exact .inl rfl) | (simp; done) | (right; omega) | (right; simp; omega))) | (with_reducible refine Keep.allocs ?_ (by simp; done) _) | (with_reducible refine Keep.alloc ?_ _) | (with_reducible refine Keep.drew ?_) | (with_reducible refine Keep.drewN ?_ _) | refine Keep.thenBelow ?_ (by assumption) | refine Keep.grown ?_ (by assumption) (by intro k hk; (first | (cases hk; done) | (exfalso; simp [Value.ownBlock] at hk; done) | (simp [Value.ownBlock] at hk; subst hk; (first | (right; simp; omega) | (left; first | rfl | simp)))) ) | refine Keep.trans ?_ (by assumption) | (with_reducible refine Keep.allocs ?_ (by simp; done) _) | refine Keep.alloc ?_ _ | refine Keep.drew ?_ | refine Keep.drewN ?_ _ | refine Keep.setCell ?_ (by first | (exact .inl rfl) | (simp; done) | (right; omega) | (right; simp; omega)) _))⟩
set_option maxHeartbeats 800000 in
theorem zero_any (op : Int) (a : Nat) (b c k : Int) (ha : a < 8) :
    Calls Try.prog 76 #[.agg #[P, .int .i64 bd, .int .i64 dp, .pointer (some ⟨bf, 0, none⟩)], .agg #[.int .i64 op, .int .i64 a, .int .i64 b, .int .i64 c, .int .i64 k]] w fun e w' =>
      e = .returned (effV 1 0 0 0 0 0 nilV nilV) ∧ w'.heap[bf]? = some (.cells (FrB pv { f with at_ := if f.R a = 0 then k else f.at_ }) 80 (0, 0)) ∧ Keep (fun x => x = bf) w w' := by
  obtain ⟨cFn, cAt, cSt, cKi, cPa, cR, cH, zF, hlt⟩ := fr_cells hbf
  have l1 : bf < w.heap.size + 1 := by omega
  have l2 : bf < w.heap.size + 1 + 1 := by omega
  have l3 : bf < w.heap.size + 1 + 1 + 1 := by omega
  have ca := cR a ha
  have za := zF (5 + a)
  have a0 : (0 : Int) ≤ (a : Int) := by omega
  have a1 : (a : Int) < 8 := by omega
  have z1 := zF 1
  clear cR zF cFn cSt cKi cPa cH
  by_cases hz : f.R a = 0
  · have hb : (f.R a == 0) = true := by simpa using hz
    rw [if_pos hz]
    clear hz
    go_enter Try.func76, Try.ntmps76
    go_wp2_with fail
    refine plan_begin (fun _ => False) 9 9 rfl (by kernel_rfl) (fun hSk => ?_)
    (refine plan_q 0 rfl (by kernel_rfl) (by kernel_rfl) (by kernel_rfl) rfl rfl (fun _ _ _ _ h => h) hSk (by decide) (by kernel_rfl) (fun K hK => ?_); go_big_quiet_op; with_reducible refine hK _ ?_; clear hK K)
    (refine plan_q 1 rfl (by kernel_rfl) (by kernel_rfl) (by kernel_rfl) rfl rfl (fun _ _ _ _ h => h) hSk (by decide) (by kernel_rfl) (fun K hK => ?_); go_big_quiet_op; with_reducible refine hK _ ?_; clear hK K)
    (refine plan_q 2 rfl (by kernel_rfl) (by kernel_rfl) (by kernel_rfl) rfl rfl (fun _ _ _ _ h => h) hSk (by decide) (by kernel_rfl) (fun K hK => ?_); go_big_quiet_op; with_reducible refine hK _ ?_; clear hK K)
    (refine plan_q 3 rfl (by kernel_rfl) (by kernel_rfl) (by kernel_rfl) rfl rfl (fun _ _ _ _ h => h) hSk (by decide) (by kernel_rfl) (fun K hK => ?_); go_big_quiet_op; with_reducible refine hK _ ?_; clear hK K)
    (refine plan_q 4 rfl (by kernel_rfl) (by kernel_rfl) (by kernel_rfl) rfl rfl (fun _ _ _ _ h => h) hSk (by decide) (by kernel_rfl) (fun K hK => ?_); go_big_quiet_op; with_reducible refine hK _ ?_; clear hK K)
    (refine plan_q 5 rfl (by kernel_rfl) (by kernel_rfl) (by kernel_rfl) rfl rfl (fun _ _ _ _ h => h) hSk (by decide) (by kernel_rfl) (fun K hK => ?_); go_big_quiet_op; with_reducible refine hK _ ?_; clear hK K)
    (refine plan_q 6 rfl (by kernel_rfl) (by kernel_rfl) (by kernel_rfl) rfl rfl (fun _ _ _ _ h => h) hSk (by decide) (by kernel_rfl) (fun K hK => ?_); go_big_quiet_op; with_reducible refine hK _ ?_; clear hK K)
    (refine plan_q 7 rfl (by kernel_rfl) (by kernel_rfl) (by kernel_rfl) rfl rfl (fun _ _ _ _ h => h) hSk (by decide) (by kernel_rfl) (fun K hK => ?_); go_big_quiet_op; with_reducible refine hK _ ?_; clear hK K)
    (refine plan_q 8 rfl (by kernel_rfl) (by kernel_rfl) (by kernel_rfl) rfl rfl (fun _ _ _ _ h => h) hSk (by decide) (by kernel_rfl) (fun K hK => ?_); go_big_quiet_op; with_reducible refine hK _ ?_; clear hK K)
    refine plan_e (by kernel_rfl) ?_
    clear hSk
    go_wp2
    go_returns
    exact ⟨rfl, by ((repeat (first | (with_reducible refine heap_drew1 ?_) | (with_reducible refine heap_lt_alloc ?_))); exact heap_near hbf rfl), by (repeat (first | with_reducible exact Keep.refl _ _ | (with_reducible refine Keep.left ?_) | (with_reducible refine Keep.leftN ?_) | (with_reducible assumption) | (with_reducible refine Keep.setCell ?_ ?hs _; case hs => (first | (exact .inl rfl) | (simp; done) | (right; omega) | (right; simp; omega))) | (with_reducible refine Keep.allocs ?_ (by simp; done) _) | (with_reducible refine Keep.alloc ?_ _) | (with_reducible refine Keep.drew ?_) | (with_reducible refine Keep.drewN ?_ _) | refine Keep.thenBelow ?_ (by assumption) | refine Keep.grown ?_ (by assumption) (by intro k hk; (first | (cases hk; done) | (exfalso; simp [Value.ownBlock] at hk; done) | (simp [Value.ownBlock] at hk; subst hk; (first | (right; simp; omega) | (left; first | rfl | simp)))) ) | refine Keep.trans ?_ (by assumption) | (with_reducible refine Keep.allocs ?_ (by simp; done) _) | refine Keep.alloc ?_ _ | refine Keep.drew ?_ | refine Keep.drewN ?_ _ | refine Keep.setCell ?_ (by first | (exact .inl rfl) | (simp; done) | (right; omega) | (right; simp; omega)) _))⟩
  · have hb : (f.R a == 0) = false := by simpa using hz
    rw [if_neg hz]
    clear hz
    go_enter Try.func76, Try.ntmps76
    go_wp2_with fail
    refine plan_begin (fun _ => False) 9 9 rfl (by kernel_rfl) (fun hSk => ?_)
    (refine plan_q 0 rfl (by kernel_rfl) (by kernel_rfl) (by kernel_rfl) rfl rfl (fun _ _ _ _ h => h) hSk (by decide) (by kernel_rfl) (fun K hK => ?_); go_big_quiet_op; with_reducible refine hK _ ?_; clear hK K)
    (refine plan_q 1 rfl (by kernel_rfl) (by kernel_rfl) (by kernel_rfl) rfl rfl (fun _ _ _ _ h => h) hSk (by decide) (by kernel_rfl) (fun K hK => ?_); go_big_quiet_op; with_reducible refine hK _ ?_; clear hK K)
    (refine plan_q 2 rfl (by kernel_rfl) (by kernel_rfl) (by kernel_rfl) rfl rfl (fun _ _ _ _ h => h) hSk (by decide) (by kernel_rfl) (fun K hK => ?_); go_big_quiet_op; with_reducible refine hK _ ?_; clear hK K)
    (refine plan_q 3 rfl (by kernel_rfl) (by kernel_rfl) (by kernel_rfl) rfl rfl (fun _ _ _ _ h => h) hSk (by decide) (by kernel_rfl) (fun K hK => ?_); go_big_quiet_op; with_reducible refine hK _ ?_; clear hK K)
    (refine plan_q 4 rfl (by kernel_rfl) (by kernel_rfl) (by kernel_rfl) rfl rfl (fun _ _ _ _ h => h) hSk (by decide) (by kernel_rfl) (fun K hK => ?_); go_big_quiet_op; with_reducible refine hK _ ?_; clear hK K)
    (refine plan_q 5 rfl (by kernel_rfl) (by kernel_rfl) (by kernel_rfl) rfl rfl (fun _ _ _ _ h => h) hSk (by decide) (by kernel_rfl) (fun K hK => ?_); go_big_quiet_op; with_reducible refine hK _ ?_; clear hK K)
    (refine plan_q 6 rfl (by kernel_rfl) (by kernel_rfl) (by kernel_rfl) rfl rfl (fun _ _ _ _ h => h) hSk (by decide) (by kernel_rfl) (fun K hK => ?_); go_big_quiet_op; with_reducible refine hK _ ?_; clear hK K)
    (refine plan_q 7 rfl (by kernel_rfl) (by kernel_rfl) (by kernel_rfl) rfl rfl (fun _ _ _ _ h => h) hSk (by decide) (by kernel_rfl) (fun K hK => ?_); go_big_quiet_op; with_reducible refine hK _ ?_; clear hK K)
    (refine plan_q 8 rfl (by kernel_rfl) (by kernel_rfl) (by kernel_rfl) rfl rfl (fun _ _ _ _ h => h) hSk (by decide) (by kernel_rfl) (fun K hK => ?_); go_big_quiet_op; with_reducible refine hK _ ?_; clear hK K)
    refine plan_e (by kernel_rfl) ?_
    clear hSk
    go_wp2
    go_returns
    exact ⟨rfl, by ((repeat (first | (with_reducible refine heap_drew1 ?_) | (with_reducible refine heap_lt_alloc ?_))); exact hbf), by (repeat (first | with_reducible exact Keep.refl _ _ | (with_reducible refine Keep.left ?_) | (with_reducible refine Keep.leftN ?_) | (with_reducible assumption) | (with_reducible refine Keep.setCell ?_ ?hs _; case hs => (first | (exact .inl rfl) | (simp; done) | (right; omega) | (right; simp; omega))) | (with_reducible refine Keep.allocs ?_ (by simp; done) _) | (with_reducible refine Keep.alloc ?_ _) | (with_reducible refine Keep.drew ?_) | (with_reducible refine Keep.drewN ?_ _) | refine Keep.thenBelow ?_ (by assumption) | refine Keep.grown ?_ (by assumption) (by intro k hk; (first | (cases hk; done) | (exfalso; simp [Value.ownBlock] at hk; done) | (simp [Value.ownBlock] at hk; subst hk; (first | (right; simp; omega) | (left; first | rfl | simp)))) ) | refine Keep.trans ?_ (by assumption) | (with_reducible refine Keep.allocs ?_ (by simp; done) _) | refine Keep.alloc ?_ _ | refine Keep.drew ?_ | refine Keep.drewN ?_ _ | refine Keep.setCell ?_ (by first | (exact .inl rfl) | (simp; done) | (right; omega) | (right; simp; omega)) _))⟩
set_option maxHeartbeats 800000 in
theorem sync_any (op a b c k : Int) :
    Calls Try.prog 78 #[.agg #[P, .int .i64 bd, .int .i64 dp, .pointer (some ⟨bf, 0, none⟩)], .agg #[.int .i64 op, .int .i64 a, .int .i64 b, .int .i64 c, .int .i64 k]] w fun e w' =>
      e = .returned (effV 5 0 0 0 0 0 nilV nilV) ∧ w'.heap[bf]? = some (.cells (FrB pv f) 80 (0, 0)) ∧ Keep (fun x => x = bf) w w' := by
  obtain ⟨cFn, cAt, cSt, cKi, cPa, cR, cH, zF, hlt⟩ := fr_cells hbf
  have l1 : bf < w.heap.size + 1 := by omega
  have l2 : bf < w.heap.size + 1 + 1 := by omega
  have l3 : bf < w.heap.size + 1 + 1 + 1 := by omega
  clear cR zF cFn cAt cSt cKi cPa cH
  go_enter Try.func78, Try.ntmps78
  go_wp2
  go_returns
  exact ⟨rfl, by ((repeat (first | (with_reducible refine heap_drew1 ?_) | (with_reducible refine heap_lt_alloc ?_))); exact hbf), by (repeat (first | with_reducible exact Keep.refl _ _ | (with_reducible refine Keep.left ?_) | (with_reducible refine Keep.leftN ?_) | (with_reducible assumption) | (with_reducible refine Keep.setCell ?_ ?hs _; case hs => (first | (exact .inl rfl) | (simp; done) | (right; omega) | (right; simp; omega))) | (with_reducible refine Keep.allocs ?_ (by simp; done) _) | (with_reducible refine Keep.alloc ?_ _) | (with_reducible refine Keep.drew ?_) | (with_reducible refine Keep.drewN ?_ _) | refine Keep.thenBelow ?_ (by assumption) | refine Keep.grown ?_ (by assumption) (by intro k hk; (first | (cases hk; done) | (exfalso; simp [Value.ownBlock] at hk; done) | (simp [Value.ownBlock] at hk; subst hk; (first | (right; simp; omega) | (left; first | rfl | simp)))) ) | refine Keep.trans ?_ (by assumption) | (with_reducible refine Keep.allocs ?_ (by simp; done) _) | refine Keep.alloc ?_ _ | refine Keep.drew ?_ | refine Keep.drewN ?_ _ | refine Keep.setCell ?_ (by first | (exact .inl rfl) | (simp; done) | (right; omega) | (right; simp; omega)) _))⟩
set_option maxHeartbeats 800000 in
theorem emit_any (op : Int) (a : Nat) (b c k : Int) (ha : a < 8) :
    Calls Try.prog 81 #[.agg #[P, .int .i64 bd, .int .i64 dp, .pointer (some ⟨bf, 0, none⟩)], .agg #[.int .i64 op, .int .i64 a, .int .i64 b, .int .i64 c, .int .i64 k]] w fun e w' =>
      e = .returned (effV 2 (f.R a) 0 0 0 0 nilV nilV) ∧ w'.heap[bf]? = some (.cells (FrB pv f) 80 (0, 0)) ∧ Keep (fun x => x = bf) w w' := by
  obtain ⟨cFn, cAt, cSt, cKi, cPa, cR, cH, zF, hlt⟩ := fr_cells hbf
  have l1 : bf < w.heap.size + 1 := by omega
  have l2 : bf < w.heap.size + 1 + 1 := by omega
  have l3 : bf < w.heap.size + 1 + 1 + 1 := by omega
  have ca := cR a ha
  have za := zF (5 + a)
  have a0 : (0 : Int) ≤ (a : Int) := by omega
  have a1 : (a : Int) < 8 := by omega
  clear cR zF cFn cAt cSt cKi cPa cH
  go_enter Try.func81, Try.ntmps81
  go_wp2_with fail
  refine plan_begin (fun _ => False) 9 10 rfl (by kernel_rfl) (fun hSk => ?_)
  (refine plan_q 0 rfl (by kernel_rfl) (by kernel_rfl) (by kernel_rfl) rfl rfl (fun _ _ _ _ h => h) hSk (by decide) (by kernel_rfl) (fun K hK => ?_); go_big_quiet_op; with_reducible refine hK _ ?_; clear hK K)
  (refine plan_q 1 rfl (by kernel_rfl) (by kernel_rfl) (by kernel_rfl) rfl rfl (fun _ _ _ _ h => h) hSk (by decide) (by kernel_rfl) (fun K hK => ?_); go_big_quiet_op; with_reducible refine hK _ ?_; clear hK K)
  (refine plan_q 2 rfl (by kernel_rfl) (by kernel_rfl) (by kernel_rfl) rfl rfl (fun _ _ _ _ h => h) hSk (by decide) (by kernel_rfl) (fun K hK => ?_); go_big_quiet_op; with_reducible refine hK _ ?_; clear hK K)
  (refine plan_q 3 rfl (by kernel_rfl) (by kernel_rfl) (by kernel_rfl) rfl rfl (fun _ _ _ _ h => h) hSk (by decide) (by kernel_rfl) (fun K hK => ?_); go_big_quiet_op; with_reducible refine hK _ ?_; clear hK K)
  (refine plan_q 4 rfl (by kernel_rfl) (by kernel_rfl) (by kernel_rfl) rfl rfl (fun _ _ _ _ h => h) hSk (by decide) (by kernel_rfl) (fun K hK => ?_); go_big_quiet_op; with_reducible refine hK _ ?_; clear hK K)
  (refine plan_q 5 rfl (by kernel_rfl) (by kernel_rfl) (by kernel_rfl) rfl rfl (fun _ _ _ _ h => h) hSk (by decide) (by kernel_rfl) (fun K hK => ?_); go_big_quiet_op; with_reducible refine hK _ ?_; clear hK K)
  (refine plan_q 6 rfl (by kernel_rfl) (by kernel_rfl) (by kernel_rfl) rfl rfl (fun _ _ _ _ h => h) hSk (by decide) (by kernel_rfl) (fun K hK => ?_); go_big_quiet_op; with_reducible refine hK _ ?_; clear hK K)
  (refine plan_q 7 rfl (by kernel_rfl) (by kernel_rfl) (by kernel_rfl) rfl rfl (fun _ _ _ _ h => h) hSk (by decide) (by kernel_rfl) (fun K hK => ?_); go_big_quiet_op; with_reducible refine hK _ ?_; clear hK K)
  (refine plan_q 8 rfl (by kernel_rfl) (by kernel_rfl) (by kernel_rfl) rfl rfl (fun _ _ _ _ h => h) hSk (by decide) (by kernel_rfl) (fun K hK => ?_); go_big_quiet_op; with_reducible refine hK _ ?_; clear hK K)
  (refine plan_l 9 rfl (by kernel_rfl) (fun K hK => ?_); go_wp2_with (fail); (try simp only [Exit.then]); (try simp only [Act.put, List.setIfInBounds_toArray, List.set_cons_succ, List.set_cons_zero]); refine hK _ _ (fun hz0 => by exact absurd rfl hz0) (fun hSk1 => ?_); clear hK K hSk)
  refine plan_e (by kernel_rfl) ?_
  clear hSk1
  go_wp2
  go_returns
  exact ⟨rfl, by ((repeat (first | (with_reducible refine heap_drew1 ?_) | (with_reducible refine heap_lt_alloc ?_))); exact hbf), by (repeat (first | with_reducible exact Keep.refl _ _ | (with_reducible refine Keep.left ?_) | (with_reducible refine Keep.leftN ?_) | (with_reducible assumption) | (with_reducible refine Keep.setCell ?_ ?hs _; case hs => (first | (exact .inl rfl) | (simp; done) | (right; omega) | (right; simp; omega))) | (with_reducible refine Keep.allocs ?_ (by simp; done) _) | (with_reducible refine Keep.alloc ?_ _) | (with_reducible refine Keep.drew ?_) | (with_reducible refine Keep.drewN ?_ _) | refine Keep.thenBelow ?_ (by assumption) | refine Keep.grown ?_ (by assumption) (by intro k hk; (first | (cases hk; done) | (exfalso; simp [Value.ownBlock] at hk; done) | (simp [Value.ownBlock] at hk; subst hk; (first | (right; simp; omega) | (left; first | rfl | simp)))) ) | refine Keep.trans ?_ (by assumption) | (with_reducible refine Keep.allocs ?_ (by simp; done) _) | refine Keep.alloc ?_ _ | refine Keep.drew ?_ | refine Keep.drewN ?_ _ | refine Keep.setCell ?_ (by first | (exact .inl rfl) | (simp; done) | (right; omega) | (right; simp; omega)) _))⟩
set_option maxHeartbeats 800000 in
theorem fail_any (op a b c k : Int) :
    Calls Try.prog 82 #[.agg #[P, .int .i64 bd, .int .i64 dp, .pointer (some ⟨bf, 0, none⟩)], .agg #[.int .i64 op, .int .i64 a, .int .i64 b, .int .i64 c, .int .i64 k]] w fun e w' =>
      e = .returned (effV 8 0 0 0 0 k nilV nilV) ∧ w'.heap[bf]? = some (.cells (FrB pv f) 80 (0, 0)) ∧ Keep (fun x => x = bf) w w' := by
  obtain ⟨cFn, cAt, cSt, cKi, cPa, cR, cH, zF, hlt⟩ := fr_cells hbf
  have l1 : bf < w.heap.size + 1 := by omega
  have l2 : bf < w.heap.size + 1 + 1 := by omega
  have l3 : bf < w.heap.size + 1 + 1 + 1 := by omega
  clear cR zF cFn cAt cSt cKi cPa cH
  go_enter Try.func82, Try.ntmps82
  go_wp2
  go_returns
  exact ⟨rfl, by ((repeat (first | (with_reducible refine heap_drew1 ?_) | (with_reducible refine heap_lt_alloc ?_))); exact hbf), by (repeat (first | with_reducible exact Keep.refl _ _ | (with_reducible refine Keep.left ?_) | (with_reducible refine Keep.leftN ?_) | (with_reducible assumption) | (with_reducible refine Keep.setCell ?_ ?hs _; case hs => (first | (exact .inl rfl) | (simp; done) | (right; omega) | (right; simp; omega))) | (with_reducible refine Keep.allocs ?_ (by simp; done) _) | (with_reducible refine Keep.alloc ?_ _) | (with_reducible refine Keep.drew ?_) | (with_reducible refine Keep.drewN ?_ _) | refine Keep.thenBelow ?_ (by assumption) | refine Keep.grown ?_ (by assumption) (by intro k hk; (first | (cases hk; done) | (exfalso; simp [Value.ownBlock] at hk; done) | (simp [Value.ownBlock] at hk; subst hk; (first | (right; simp; omega) | (left; first | rfl | simp)))) ) | refine Keep.trans ?_ (by assumption) | (with_reducible refine Keep.allocs ?_ (by simp; done) _) | refine Keep.alloc ?_ _ | refine Keep.drew ?_ | refine Keep.drewN ?_ _ | refine Keep.setCell ?_ (by first | (exact .inl rfl) | (simp; done) | (right; omega) | (right; simp; omega)) _))⟩
set_option maxHeartbeats 800000 in
theorem ret_any (op a b c k : Int) :
    Calls Try.prog 83 #[.agg #[P, .int .i64 bd, .int .i64 dp, .pointer (some ⟨bf, 0, none⟩)], .agg #[.int .i64 op, .int .i64 a, .int .i64 b, .int .i64 c, .int .i64 k]] w fun e w' =>
      e = .returned (effV 7 0 a 0 0 0 nilV nilV) ∧ w'.heap[bf]? = some (.cells (FrB pv f) 80 (0, 0)) ∧ Keep (fun x => x = bf) w w' := by
  obtain ⟨cFn, cAt, cSt, cKi, cPa, cR, cH, zF, hlt⟩ := fr_cells hbf
  have l1 : bf < w.heap.size + 1 := by omega
  have l2 : bf < w.heap.size + 1 + 1 := by omega
  have l3 : bf < w.heap.size + 1 + 1 + 1 := by omega
  clear cR zF cFn cAt cSt cKi cPa cH
  go_enter Try.func83, Try.ntmps83
  go_wp2
  go_returns
  exact ⟨rfl, by ((repeat (first | (with_reducible refine heap_drew1 ?_) | (with_reducible refine heap_lt_alloc ?_))); exact hbf), by (repeat (first | with_reducible exact Keep.refl _ _ | (with_reducible refine Keep.left ?_) | (with_reducible refine Keep.leftN ?_) | (with_reducible assumption) | (with_reducible refine Keep.setCell ?_ ?hs _; case hs => (first | (exact .inl rfl) | (simp; done) | (right; omega) | (right; simp; omega))) | (with_reducible refine Keep.allocs ?_ (by simp; done) _) | (with_reducible refine Keep.alloc ?_ _) | (with_reducible refine Keep.drew ?_) | (with_reducible refine Keep.drewN ?_ _) | refine Keep.thenBelow ?_ (by assumption) | refine Keep.grown ?_ (by assumption) (by intro k hk; (first | (cases hk; done) | (exfalso; simp [Value.ownBlock] at hk; done) | (simp [Value.ownBlock] at hk; subst hk; (first | (right; simp; omega) | (left; first | rfl | simp)))) ) | refine Keep.trans ?_ (by assumption) | (with_reducible refine Keep.allocs ?_ (by simp; done) _) | refine Keep.alloc ?_ _ | refine Keep.drew ?_ | refine Keep.drewN ?_ _ | refine Keep.setCell ?_ (by first | (exact .inl rfl) | (simp; done) | (right; omega) | (right; simp; omega)) _))⟩
set_option maxHeartbeats 800000 in
theorem touch_any (op a : Int) (b : Nat) (c k : Int) (hb : b < 4) :
    Calls Try.prog 80 #[.agg #[P, .int .i64 bd, .int .i64 dp, .pointer (some ⟨bf, 0, none⟩)], .agg #[.int .i64 op, .int .i64 a, .int .i64 b, .int .i64 c, .int .i64 k]] w fun e w' =>
      e = .returned (if f.H b = 0 then effV 8 0 0 0 0 2 nilV nilV else effV 6 0 a 0 (f.H b) 0 nilV nilV) ∧ w'.heap[bf]? = some (.cells (FrB pv f) 80 (0, 0)) ∧ Keep (fun x => x = bf) w w' := by
  obtain ⟨cFn, cAt, cSt, cKi, cPa, cR, cH, zF, hlt⟩ := fr_cells hbf
  have l1 : bf < w.heap.size + 1 := by omega
  have l2 : bf < w.heap.size + 1 + 1 := by omega
  have l3 : bf < w.heap.size + 1 + 1 + 1 := by omega
  have cb := cH b hb
  have zb := zF (13 + b)
  have b0 : (0 : Int) ≤ (b : Int) := by omega
  have b1 : (b : Int) < 4 := by omega
  clear cR zF cFn cAt cSt cKi cPa cH
  by_cases hz : f.H b = 0
  · have he : (f.H b == 0) = true := by simpa using hz
    rw [if_pos hz]
    clear hz
    go_enter Try.func80, Try.ntmps80
    go_wp2_with fail
    refine plan_begin (fun _ => False) 9 9 rfl (by kernel_rfl) (fun hSk => ?_)
    (refine plan_q 0 rfl (by kernel_rfl) (by kernel_rfl) (by kernel_rfl) rfl rfl (fun _ _ _ _ h => h) hSk (by decide) (by kernel_rfl) (fun K hK => ?_); go_big_quiet_op; with_reducible refine hK _ ?_; clear hK K)
    (refine plan_q 1 rfl (by kernel_rfl) (by kernel_rfl) (by kernel_rfl) rfl rfl (fun _ _ _ _ h => h) hSk (by decide) (by kernel_rfl) (fun K hK => ?_); go_big_quiet_op; with_reducible refine hK _ ?_; clear hK K)
    (refine plan_q 2 rfl (by kernel_rfl) (by kernel_rfl) (by kernel_rfl) rfl rfl (fun _ _ _ _ h => h) hSk (by decide) (by kernel_rfl) (fun K hK => ?_); go_big_quiet_op; with_reducible refine hK _ ?_; clear hK K)
    (refine plan_q 3 rfl (by kernel_rfl) (by kernel_rfl) (by kernel_rfl) rfl rfl (fun _ _ _ _ h => h) hSk (by decide) (by kernel_rfl) (fun K hK => ?_); go_big_quiet_op; with_reducible refine hK _ ?_; clear hK K)
    (refine plan_q 4 rfl (by kernel_rfl) (by kernel_rfl) (by kernel_rfl) rfl rfl (fun _ _ _ _ h => h) hSk (by decide) (by kernel_rfl) (fun K hK => ?_); go_big_quiet_op; with_reducible refine hK _ ?_; clear hK K)
    (refine plan_q 5 rfl (by kernel_rfl) (by kernel_rfl) (by kernel_rfl) rfl rfl (fun _ _ _ _ h => h) hSk (by decide) (by kernel_rfl) (fun K hK => ?_); go_big_quiet_op; with_reducible refine hK _ ?_; clear hK K)
    (refine plan_q 6 rfl (by kernel_rfl) (by kernel_rfl) (by kernel_rfl) rfl rfl (fun _ _ _ _ h => h) hSk (by decide) (by kernel_rfl) (fun K hK => ?_); go_big_quiet_op; with_reducible refine hK _ ?_; clear hK K)
    (refine plan_q 7 rfl (by kernel_rfl) (by kernel_rfl) (by kernel_rfl) rfl rfl (fun _ _ _ _ h => h) hSk (by decide) (by kernel_rfl) (fun K hK => ?_); go_big_quiet_op; with_reducible refine hK _ ?_; clear hK K)
    (refine plan_q 8 rfl (by kernel_rfl) (by kernel_rfl) (by kernel_rfl) rfl rfl (fun _ _ _ _ h => h) hSk (by decide) (by kernel_rfl) (fun K hK => ?_); go_big_quiet_op; with_reducible refine hK _ ?_; clear hK K)
    refine plan_e (by kernel_rfl) ?_
    clear hSk
    go_wp2
    go_returns
    exact ⟨rfl, by ((repeat (first | (with_reducible refine heap_drew1 ?_) | (with_reducible refine heap_lt_alloc ?_))); exact hbf), by (repeat (first | with_reducible exact Keep.refl _ _ | (with_reducible refine Keep.left ?_) | (with_reducible refine Keep.leftN ?_) | (with_reducible assumption) | (with_reducible refine Keep.setCell ?_ ?hs _; case hs => (first | (exact .inl rfl) | (simp; done) | (right; omega) | (right; simp; omega))) | (with_reducible refine Keep.allocs ?_ (by simp; done) _) | (with_reducible refine Keep.alloc ?_ _) | (with_reducible refine Keep.drew ?_) | (with_reducible refine Keep.drewN ?_ _) | refine Keep.thenBelow ?_ (by assumption) | refine Keep.grown ?_ (by assumption) (by intro k hk; (first | (cases hk; done) | (exfalso; simp [Value.ownBlock] at hk; done) | (simp [Value.ownBlock] at hk; subst hk; (first | (right; simp; omega) | (left; first | rfl | simp)))) ) | refine Keep.trans ?_ (by assumption) | (with_reducible refine Keep.allocs ?_ (by simp; done) _) | refine Keep.alloc ?_ _ | refine Keep.drew ?_ | refine Keep.drewN ?_ _ | refine Keep.setCell ?_ (by first | (exact .inl rfl) | (simp; done) | (right; omega) | (right; simp; omega)) _))⟩
  · have he : (f.H b == 0) = false := by simpa using hz
    rw [if_neg hz]
    clear hz
    go_enter Try.func80, Try.ntmps80
    go_wp2_with fail
    refine plan_begin (fun _ => False) 9 9 rfl (by kernel_rfl) (fun hSk => ?_)
    (refine plan_q 0 rfl (by kernel_rfl) (by kernel_rfl) (by kernel_rfl) rfl rfl (fun _ _ _ _ h => h) hSk (by decide) (by kernel_rfl) (fun K hK => ?_); go_big_quiet_op; with_reducible refine hK _ ?_; clear hK K)
    (refine plan_q 1 rfl (by kernel_rfl) (by kernel_rfl) (by kernel_rfl) rfl rfl (fun _ _ _ _ h => h) hSk (by decide) (by kernel_rfl) (fun K hK => ?_); go_big_quiet_op; with_reducible refine hK _ ?_; clear hK K)
    (refine plan_q 2 rfl (by kernel_rfl) (by kernel_rfl) (by kernel_rfl) rfl rfl (fun _ _ _ _ h => h) hSk (by decide) (by kernel_rfl) (fun K hK => ?_); go_big_quiet_op; with_reducible refine hK _ ?_; clear hK K)
    (refine plan_q 3 rfl (by kernel_rfl) (by kernel_rfl) (by kernel_rfl) rfl rfl (fun _ _ _ _ h => h) hSk (by decide) (by kernel_rfl) (fun K hK => ?_); go_big_quiet_op; with_reducible refine hK _ ?_; clear hK K)
    (refine plan_q 4 rfl (by kernel_rfl) (by kernel_rfl) (by kernel_rfl) rfl rfl (fun _ _ _ _ h => h) hSk (by decide) (by kernel_rfl) (fun K hK => ?_); go_big_quiet_op; with_reducible refine hK _ ?_; clear hK K)
    (refine plan_q 5 rfl (by kernel_rfl) (by kernel_rfl) (by kernel_rfl) rfl rfl (fun _ _ _ _ h => h) hSk (by decide) (by kernel_rfl) (fun K hK => ?_); go_big_quiet_op; with_reducible refine hK _ ?_; clear hK K)
    (refine plan_q 6 rfl (by kernel_rfl) (by kernel_rfl) (by kernel_rfl) rfl rfl (fun _ _ _ _ h => h) hSk (by decide) (by kernel_rfl) (fun K hK => ?_); go_big_quiet_op; with_reducible refine hK _ ?_; clear hK K)
    (refine plan_q 7 rfl (by kernel_rfl) (by kernel_rfl) (by kernel_rfl) rfl rfl (fun _ _ _ _ h => h) hSk (by decide) (by kernel_rfl) (fun K hK => ?_); go_big_quiet_op; with_reducible refine hK _ ?_; clear hK K)
    (refine plan_q 8 rfl (by kernel_rfl) (by kernel_rfl) (by kernel_rfl) rfl rfl (fun _ _ _ _ h => h) hSk (by decide) (by kernel_rfl) (fun K hK => ?_); go_big_quiet_op; with_reducible refine hK _ ?_; clear hK K)
    refine plan_e (by kernel_rfl) ?_
    clear hSk
    go_wp2_with fail
    refine plan_begin (fun _ => False) 11 12 rfl (by kernel_rfl) (fun hSk => ?_)
    (refine plan_q 0 rfl (by kernel_rfl) (by kernel_rfl) (by kernel_rfl) rfl rfl (fun _ _ _ _ h => h) hSk (by decide) (by kernel_rfl) (fun K hK => ?_); go_big_quiet_op; with_reducible refine hK _ ?_; clear hK K)
    (refine plan_q 1 rfl (by kernel_rfl) (by kernel_rfl) (by kernel_rfl) rfl rfl (fun _ _ _ _ h => h) hSk (by decide) (by kernel_rfl) (fun K hK => ?_); go_big_quiet_op; with_reducible refine hK _ ?_; clear hK K)
    (refine plan_q 2 rfl (by kernel_rfl) (by kernel_rfl) (by kernel_rfl) rfl rfl (fun _ _ _ _ h => h) hSk (by decide) (by kernel_rfl) (fun K hK => ?_); go_big_quiet_op; with_reducible refine hK _ ?_; clear hK K)
    (refine plan_q 3 rfl (by kernel_rfl) (by kernel_rfl) (by kernel_rfl) rfl rfl (fun _ _ _ _ h => h) hSk (by decide) (by kernel_rfl) (fun K hK => ?_); go_big_quiet_op; with_reducible refine hK _ ?_; clear hK K)
    (refine plan_q 4 rfl (by kernel_rfl) (by kernel_rfl) (by kernel_rfl) rfl rfl (fun _ _ _ _ h => h) hSk (by decide) (by kernel_rfl) (fun K hK => ?_); go_big_quiet_op; with_reducible refine hK _ ?_; clear hK K)
    (refine plan_q 5 rfl (by kernel_rfl) (by kernel_rfl) (by kernel_rfl) rfl rfl (fun _ _ _ _ h => h) hSk (by decide) (by kernel_rfl) (fun K hK => ?_); go_big_quiet_op; with_reducible refine hK _ ?_; clear hK K)
    (refine plan_q 6 rfl (by kernel_rfl) (by kernel_rfl) (by kernel_rfl) rfl rfl (fun _ _ _ _ h => h) hSk (by decide) (by kernel_rfl) (fun K hK => ?_); go_big_quiet_op; with_reducible refine hK _ ?_; clear hK K)
    (refine plan_q 7 rfl (by kernel_rfl) (by kernel_rfl) (by kernel_rfl) rfl rfl (fun _ _ _ _ h => h) hSk (by decide) (by kernel_rfl) (fun K hK => ?_); go_big_quiet_op; with_reducible refine hK _ ?_; clear hK K)
    (refine plan_q 8 rfl (by kernel_rfl) (by kernel_rfl) (by kernel_rfl) rfl rfl (fun _ _ _ _ h => h) hSk (by decide) (by kernel_rfl) (fun K hK => ?_); go_big_quiet_op; with_reducible refine hK _ ?_; clear hK K)
    (refine plan_q 9 rfl (by kernel_rfl) (by kernel_rfl) (by kernel_rfl) rfl rfl (fun _ _ _ _ h => h) hSk (by decide) (by kernel_rfl) (fun K hK => ?_); go_big_quiet_op; with_reducible refine hK _ ?_; clear hK K)
    (refine plan_q 10 rfl (by kernel_rfl) (by kernel_rfl) (by kernel_rfl) rfl rfl (fun _ _ _ _ h => h) hSk (by decide) (by kernel_rfl) (fun K hK => ?_); go_big_quiet_op; with_reducible refine hK _ ?_; clear hK K)
    (refine plan_l 11 rfl (by kernel_rfl) (fun K hK => ?_); go_wp2_with (fail); (try simp only [Exit.then]); (try simp only [Act.put, List.setIfInBounds_toArray, List.set_cons_succ, List.set_cons_zero]); refine hK _ _ (fun hz0 => by exact absurd rfl hz0) (fun hSk1 => ?_); clear hK K hSk)
    refine plan_e (by kernel_rfl) ?_
    clear hSk1
    go_wp2
    go_returns
    exact ⟨rfl, by ((repeat (first | (with_reducible refine heap_drew1 ?_) | (with_reducible refine heap_lt_alloc ?_))); exact hbf), by (repeat (first | with_reducible exact Keep.refl _ _ | (with_reducible refine Keep.left ?_) | (with_reducible refine Keep.leftN ?_) | (with_reducible assumption) | (with_reducible refine Keep.setCell ?_ ?hs _; case hs => (first | (exact .inl rfl) | (simp; done) | (right; omega) | (right; simp; omega))) | (with_reducible refine Keep.allocs ?_ (by simp; done) _) | (with_reducible refine Keep.alloc ?_ _) | (with_reducible refine Keep.drew ?_) | (with_reducible refine Keep.drewN ?_ _) | refine Keep.thenBelow ?_ (by assumption) | refine Keep.grown ?_ (by assumption) (by intro k hk; (first | (cases hk; done) | (exfalso; simp [Value.ownBlock] at hk; done) | (simp [Value.ownBlock] at hk; subst hk; (first | (right; simp; omega) | (left; first | rfl | simp)))) ) | refine Keep.trans ?_ (by assumption) | (with_reducible refine Keep.allocs ?_ (by simp; done) _) | refine Keep.alloc ?_ _ | refine Keep.drew ?_ | refine Keep.drewN ?_ _ | refine Keep.setCell ?_ (by first | (exact .inl rfl) | (simp; done) | (right; omega) | (right; simp; omega)) _))⟩
end
end Go.Proofs.Ytimmglnbjgbbjaa
namespace Go.Proofs.Ytimmglnbjgbbjaa
open Go.RowKit Go.Proofs.YtimmglnbjgbbjaaW.PrintWords
theorem made_nil {w : World} {e : Nat} (hb : True) : Kd.R (Kd.int .i64) e (w.alloc (.cells #[] e)) w.heap.size (fun _ => True) (.slice (some ⟨w.heap.size, 0, none⟩) 0 0) [] :=
  ⟨fun _ _ => trivial, [], ⟨rfl, .inr ⟨w.heap.size, 0, #[], rfl, Nat.le_refl _, heap_alloc_new w _, Nat.le_refl _, Nat.zero_le _, rfl, rfl⟩⟩, Reps.none _ _⟩
theorem info_clone : (Try.prog.info? 3).map (fun i => (i.zero, i.size, i.bytes)) = some (some (.int .i64 0), 1, 8) := by kernel_rfl
set_option maxRecDepth 20000 in
set_option maxHeartbeats 400000 in
theorem clone_any (A : Option Addr) (c : Nat) (l : List Int) (w : World) (hr : Kd.C (Kd.int .i64) w A l.length l) (hl : l.length ≤ 1000000) :
    Calls Try.prog 56 #[.slice A l.length c] w fun e w' => ∃ v, e = .returned v ∧ Kd.R (Kd.int .i64) 3 w' w.heap.size (fun _ => True) v l ∧ Below w.heap.size w w' := by
  cases A with
  | none =>
    obtain rfl : l = [] := by
      rcases Nat.eq_zero_or_pos l.length with h | h
      · exact List.length_eq_zero_iff.1 h
      · obtain ⟨ad, h1, _⟩ := hr.2.2 h
        cases h1
    clear hr hl
    have hq : ∀ (n c : Nat) (w : World), (binOp .eql 38 (.slice none n c) (.slice none 0 0)).run Try.prog w = .ok (.bool true) w := fun _ _ _ => by kernel_rfl
    go_enter Try.func56, Try.ntmps56
    go_wp2
    go_ret
    exact ⟨_, rfl, Kd.R_nil _ _ _ _ _, Below.refl _ _⟩
  | some ad =>
    have HR := Aside0.mk hr
    have HL := Aside0.mk hl
    clear hr hl
    have hq : ∀ (ad : Addr) (n c : Nat) (w : World), (binOp .eql 38 (.slice (some ad) n c) (.slice none 0 0)).run Try.prog w = .ok (.bool false) w := fun _ _ _ _ => by kernel_rfl
    go_enter Try.func56, Try.ntmps56
    go_wp2_with (at_builtin; (refine Kd.R_append_rows (Kd.int .i64) (w0 := w) w.heap.size rfl _ _ 38 3 (.int .i64 0) 8 rfl Try.underlying38 info_clone rfl (by decide) (by decide) (.slice (some ⟨w.heap.size, 0, none⟩) 0 0) [] l (some ad) l.length c (fun _ => True) (fun _ => False) rfl rfl (made_nil trivial) (Kd.C_alloc HR.out _) (fun _ _ h => h) (fun _ h => h.elim) (fun _ _ => trivial) (below_alloc (Below.refl _ _) _) (by simp) (by have := HL.out; simp; omega) ?_; intro v1 w1 hR hB hG hO))
    go_ret
    exact ⟨_, rfl, hR, hB⟩
theorem info_clone64 : (Try.prog.info? 2).map (fun i => (i.zero, i.size, i.bytes)) = some (some (.int .i64 0), 1, 8) := by kernel_rfl
set_option maxRecDepth 20000 in
set_option maxHeartbeats 400000 in
theorem clone64_any (A : Option Addr) (c : Nat) (l : List Int) (w : World) (hr : Kd.C (Kd.int .i64) w A l.length l) (hl : l.length ≤ 1000000) :
    Calls Try.prog 135 #[.slice A l.length c] w fun e w' => ∃ v, e = .returned v ∧ Kd.R (Kd.int .i64) 2 w' w.heap.size (fun _ => True) v l ∧ Below w.heap.size w w' := by
  cases A with
  | none =>
    obtain rfl : l = [] := by
      rcases Nat.eq_zero_or_pos l.length with h | h
      · exact List.length_eq_zero_iff.1 h
      · obtain ⟨ad, h1, _⟩ := hr.2.2 h
        cases h1
    clear hr hl
    have hq : ∀ (n c : Nat) (w : World), (binOp .eql 26 (.slice none n c) (.slice none 0 0)).run Try.prog w = .ok (.bool true) w := fun _ _ _ => by kernel_rfl
    go_enter Try.func135, Try.ntmps135
    go_wp2
    go_ret
    exact ⟨_, rfl, Kd.R_nil _ _ _ _ _, Below.refl _ _⟩
  | some ad =>
    have HR := Aside0.mk hr
    have HL := Aside0.mk hl
    clear hr hl
    have hq : ∀ (ad : Addr) (n c : Nat) (w : World), (binOp .eql 26 (.slice (some ad) n c) (.slice none 0 0)).run Try.prog w = .ok (.bool false) w := fun _ _ _ _ => by kernel_rfl
    go_enter Try.func135, Try.ntmps135
    go_wp2_with (at_builtin; (refine Kd.R_append_rows (Kd.int .i64) (w0 := w) w.heap.size rfl _ _ 26 2 (.int .i64 0) 8 rfl Try.underlying26 info_clone64 rfl (by decide) (by decide) (.slice (some ⟨w.heap.size, 0, none⟩) 0 0) [] l (some ad) l.length c (fun _ => True) (fun _ => False) rfl rfl (made_nil trivial) (Kd.C_alloc HR.out _) (fun _ _ h => h) (fun _ h => h.elim) (fun _ _ => trivial) (below_alloc (Below.refl _ _) _) (by simp) (by have := HL.out; simp; omega) ?_; intro v1 w1 hR hB hG hO))
    go_ret
    exact ⟨_, rfl, hR, hB⟩
end Go.Proofs.Ytimmglnbjgbbjaa
namespace Go.Proofs.Ytimmglnbjgbbjaa
open Go.RowKit Go.Proofs.YtimmglnbjgbbjaaW.PrintWords
section
variable (P : Value) (bd dp : Int) (bf : Nat) (pv : Value) (f : Fr) (w : World) (hbf : w.heap[bf]? = some (.cells (FrB pv f) 80 (0, 0)))
include hbf
set_option maxHeartbeats 800000 in
theorem reckon3_any (a b c : Nat) (k : Int) (ha : a < 8) (hb : b < 8) (hc : c < 8) :
    Calls Try.prog 74 #[.agg #[P, .int .i64 bd, .int .i64 dp, .pointer (some ⟨bf, 0, none⟩)], .agg #[.int .i64 3, .int .i64 a, .int .i64 b, .int .i64 c, .int .i64 k]] w fun e w' =>
      e = .returned (effV 1 0 0 0 0 0 nilV nilV) ∧ w'.heap[bf]? = some (.cells (FrB pv { f with R := upd f.R a (wrap64 (f.R b + f.R c)) }) 80 (0, 0)) ∧ Keep (fun x => x = bf) w w' := by
  obtain ⟨cFn, cAt, cSt, cKi, cPa, cR, cH, zF, hlt⟩ := fr_cells hbf
  have l1 : bf < w.heap.size + 1 := by omega
  have l2 : bf < w.heap.size + 1 + 1 := by omega
  have l3 : bf < w.heap.size + 1 + 1 + 1 := by omega
  have ca := cR a ha
  have za := zF (5 + a)
  have a0 : (0 : Int) ≤ (a : Int) := by omega
  have a1 : (a : Int) < 8 := by omega
  have cb := cR b hb
  have zb := zF (5 + b)
  have b0 : (0 : Int) ≤ (b : Int) := by omega
  have b1 : (b : Int) < 8 := by omega
  have cc := cR c hc
  have zc := zF (5 + c)
  have c0 : (0 : Int) ≤ (c : Int) := by omega
  have c1 : (c : Int) < 8 := by omega
  clear cR zF cFn cAt cSt cKi cPa cH
  go_enter Try.func74, Try.ntmps74
  go_wp2_with fail
  refine plan_begin (fun _ => False) 18 18 rfl (by kernel_rfl) (fun hSk => ?_)
  (refine plan_q 0 rfl (by kernel_rfl) (by kernel_rfl) (by kernel_rfl) rfl rfl (fun _ _ _ _ h => h) hSk (by decide) (by kernel_rfl) (fun K hK => ?_); go_big_quiet_op; with_reducible refine hK _ ?_; clear hK K)
  (refine plan_q 1 rfl (by kernel_rfl) (by kernel_rfl) (by kernel_rfl) rfl rfl (fun _ _ _ _ h => h) hSk (by decide) (by kernel_rfl) (fun K hK => ?_); go_big_quiet_op; with_reducible refine hK _ ?_; clear hK K)
  (refine plan_q 2 rfl (by kernel_rfl) (by kernel_rfl) (by kernel_rfl) rfl rfl (fun _ _ _ _ h => h) hSk (by decide) (by kernel_rfl) (fun K hK => ?_); go_big_quiet_op; with_reducible refine hK _ ?_; clear hK K)
  (refine plan_q 3 rfl (by kernel_rfl) (by kernel_rfl) (by kernel_rfl) rfl rfl (fun _ _ _ _ h => h) hSk (by decide) (by kernel_rfl) (fun K hK => ?_); go_big_quiet_op; with_reducible refine hK _ ?_; clear hK K)
  (refine plan_q 4 rfl (by kernel_rfl) (by kernel_rfl) (by kernel_rfl) rfl rfl (fun _ _ _ _ h => h) hSk (by decide) (by kernel_rfl) (fun K hK => ?_); go_big_quiet_op; with_reducible refine hK _ ?_; clear hK K)
  (refine plan_q 5 rfl (by kernel_rfl) (by kernel_rfl) (by kernel_rfl) rfl rfl (fun _ _ _ _ h => h) hSk (by decide) (by kernel_rfl) (fun K hK => ?_); go_big_quiet_op; with_reducible refine hK _ ?_; clear hK K)
  (refine plan_q 6 rfl (by kernel_rfl) (by kernel_rfl) (by kernel_rfl) rfl rfl (fun _ _ _ _ h => h) hSk (by decide) (by kernel_rfl) (fun K hK => ?_); go_big_quiet_op; with_reducible refine hK _ ?_; clear hK K)
  (refine plan_q 7 rfl (by kernel_rfl) (by kernel_rfl) (by kernel_rfl) rfl rfl (fun _ _ _ _ h => h) hSk (by decide) (by kernel_rfl) (fun K hK => ?_); go_big_quiet_op; with_reducible refine hK _ ?_; clear hK K)
  (refine plan_q 8 rfl (by kernel_rfl) (by kernel_rfl) (by kernel_rfl) rfl rfl (fun _ _ _ _ h => h) hSk (by decide) (by kernel_rfl) (fun K hK => ?_); go_big_quiet_op; with_reducible refine hK _ ?_; clear hK K)
  (refine plan_q 9 rfl (by kernel_rfl) (by kernel_rfl) (by kernel_rfl) rfl rfl (fun _ _ _ _ h => h) hSk (by decide) (by kernel_rfl) (fun K hK => ?_); go_big_quiet_op; with_reducible refine hK _ ?_; clear hK K)
  (refine plan_q 10 rfl (by kernel_rfl) (by kernel_rfl) (by kernel_rfl) rfl rfl (fun _ _ _ _ h => h) hSk (by decide) (by kernel_rfl) (fun K hK => ?_); go_big_quiet_op; with_reducible refine hK _ ?_; clear hK K)
  (refine plan_q 11 rfl (by kernel_rfl) (by kernel_rfl) (by kernel_rfl) rfl rfl (fun _ _ _ _ h => h) hSk (by decide) (by kernel_rfl) (fun K hK => ?_); go_big_quiet_op; with_reducible refine hK _ ?_; clear hK K)
  (refine plan_q 12 rfl (by kernel_rfl) (by kernel_rfl) (by kernel_rfl) rfl rfl (fun _ _ _ _ h => h) hSk (by decide) (by kernel_rfl) (fun K hK => ?_); go_big_quiet_op; with_reducible refine hK _ ?_; clear hK K)
  (refine plan_q 13 rfl (by kernel_rfl) (by kernel_rfl) (by kernel_rfl) rfl rfl (fun _ _ _ _ h => h) hSk (by decide) (by kernel_rfl) (fun K hK => ?_); go_big_quiet_op; with_reducible refine hK _ ?_; clear hK K)
  (refine plan_q 14 rfl (by kernel_rfl) (by kernel_rfl) (by kernel_rfl) rfl rfl (fun _ _ _ _ h => h) hSk (by decide) (by kernel_rfl) (fun K hK => ?_); go_big_quiet_op; with_reducible refine hK _ ?_; clear hK K)
  (refine plan_q 15 rfl (by kernel_rfl) (by kernel_rfl) (by kernel_rfl) rfl rfl (fun _ _ _ _ h => h) hSk (by decide) (by kernel_rfl) (fun K hK => ?_); go_big_quiet_op; with_reducible refine hK _ ?_; clear hK K)
  (refine plan_q 16 rfl (by kernel_rfl) (by kernel_rfl) (by kernel_rfl) rfl rfl (fun _ _ _ _ h => h) hSk (by decide) (by kernel_rfl) (fun K hK => ?_); go_big_quiet_op; with_reducible refine hK _ ?_; clear hK K)
  (refine plan_q 17 rfl (by kernel_rfl) (by kernel_rfl) (by kernel_rfl) rfl rfl (fun _ _ _ _ h => h) hSk (by decide) (by kernel_rfl) (fun K hK => ?_); go_big_quiet_op; with_reducible refine hK _ ?_; clear hK K)
  refine plan_e (by kernel_rfl) ?_
  clear hSk
  go_wp2
  refine plan_begin (fun _ => False) 8 9 rfl (by kernel_rfl) (fun hSk => ?_)
  (refine plan_q 0 rfl (by kernel_rfl) (by kernel_rfl) (by kernel_rfl) rfl rfl (fun _ _ _ _ h => h) hSk (by decide) (by kernel_rfl) (fun K hK => ?_); go_big_quiet_op; with_reducible refine hK _ ?_; clear hK K)
  (refine plan_q 1 rfl (by kernel_rfl) (by kernel_rfl) (by kernel_rfl) rfl rfl (fun _ _ _ _ h => h) hSk (by decide) (by kernel_rfl) (fun K hK => ?_); go_big_quiet_op; with_reducible refine hK _ ?_; clear hK K)
  (refine plan_q 2 rfl (by kernel_rfl) (by kernel_rfl) (by kernel_rfl) rfl rfl (fun _ _ _ _ h => h) hSk (by decide) (by kernel_rfl) (fun K hK => ?_); go_big_quiet_op; with_reducible refine hK _ ?_; clear hK K)
  (refine plan_q 3 rfl (by kernel_rfl) (by kernel_rfl) (by kernel_rfl) rfl rfl (fun _ _ _ _ h => h) hSk (by decide) (by kernel_rfl) (fun K hK => ?_); go_big_quiet_op; with_reducible refine hK _ ?_; clear hK K)
  (refine plan_q 4 rfl (by kernel_rfl) (by kernel_rfl) (by kernel_rfl) rfl rfl (fun _ _ _ _ h => h) hSk (by decide) (by kernel_rfl) (fun K hK => ?_); go_big_quiet_op; with_reducible refine hK _ ?_; clear hK K)
  (refine plan_q 5 rfl (by kernel_rfl) (by kernel_rfl) (by kernel_rfl) rfl rfl (fun _ _ _ _ h => h) hSk (by decide) (by kernel_rfl) (fun K hK => ?_); go_big_quiet_op; with_reducible refine hK _ ?_; clear hK K)
  (refine plan_q 6 rfl (by kernel_rfl) (by kernel_rfl) (by kernel_rfl) rfl rfl (fun _ _ _ _ h => h) hSk (by decide) (by kernel_rfl) (fun K hK => ?_); go_big_quiet_op; with_reducible refine hK _ ?_; clear hK K)
  (refine plan_q 7 rfl (by kernel_rfl) (by kernel_rfl) (by kernel_rfl) rfl rfl (fun _ _ _ _ h => h) hSk (by decide) (by kernel_rfl) (fun K hK => ?_); go_big_quiet_op; with_reducible refine hK _ ?_; clear hK K)
  (refine plan_l 8 rfl (by kernel_rfl) (fun K hK => ?_); go_wp2_with (fail); (try simp only [Exit.then]); (try simp only [Act.put, List.setIfInBounds_toArray, List.set_cons_succ, List.set_cons_zero]); refine hK _ _ (fun hz0 => by exact absurd rfl hz0) (fun hSk1 => ?_); clear hK K hSk)
  refine plan_e (by kernel_rfl) ?_
  clear hSk1
  go_wp2
  go_returns
  exact ⟨rfl, by ((repeat (first | (with_reducible refine heap_drew1 ?_) | (with_reducible refine heap_lt_alloc ?_))); exact heap_near hbf (FrB_put ha _)), by (repeat (first | with_reducible exact Keep.refl _ _ | (with_reducible refine Keep.left ?_) | (with_reducible refine Keep.leftN ?_) | (with_reducible assumption) | (with_reducible refine Keep.setCell ?_ ?hs _; case hs => (first | (exact .inl rfl) | (simp; done) | (right; omega) | (right; simp; omega))) | (with_reducible refine Keep.allocs ?_ (by simp; done) _) | (with_reducible refine Keep.alloc ?_ _) | (with_reducible refine Keep.drew ?_) | (with_reducible refine Keep.drewN ?_ _) | refine Keep.thenBelow ?_ (by assumption) | refine Keep.grown ?_ (by assumption) (by intro k hk; (first | (cases hk; done) | (exfalso; simp [Value.ownBlock] at hk; done) | (simp [Value.ownBlock] at hk; subst hk; (first | (right; simp; omega) | (left; first | rfl | simp)))) ) | refine Keep.trans ?_ (by assumption) | (with_reducible refine Keep.allocs ?_ (by simp; done) _) | refine Keep.alloc ?_ _ | refine Keep.drew ?_ | refine Keep.drewN ?_ _ | refine Keep.setCell ?_ (by first | (exact .inl rfl) | (simp; done) | (right; omega) | (right; simp; omega)) _))⟩
set_option maxHeartbeats 800000 in
theorem reckon4_any (a b c : Nat) (k : Int) (ha : a < 8) (hb : b < 8) (hc : c < 8) :
    Calls Try.prog 74 #[.agg #[P, .int .i64 bd, .int .i64 dp, .pointer (some ⟨bf, 0, none⟩)], .agg #[.int .i64 4, .int .i64 a, .int .i64 b, .int .i64 c, .int .i64 k]] w fun e w' =>
      e = .returned (effV 1 0 0 0 0 0 nilV nilV) ∧ w'.heap[bf]? = some (.cells (FrB pv { f with R := upd f.R a (wrap64 (f.R b - f.R c)) }) 80 (0, 0)) ∧ Keep (fun x => x = bf) w w' := by
  obtain ⟨cFn, cAt, cSt, cKi, cPa, cR, cH, zF, hlt⟩ := fr_cells hbf
  have l1 : bf < w.heap.size + 1 := by omega
  have l2 : bf < w.heap.size + 1 + 1 := by omega
  have l3 : bf < w.heap.size + 1 + 1 + 1 := by omega
  have ca := cR a ha
  have za := zF (5 + a)
  have a0 : (0 : Int) ≤ (a : Int) := by omega
  have a1 : (a : Int) < 8 := by omega
  have cb := cR b hb
  have zb := zF (5 + b)
  have b0 : (0 : Int) ≤ (b : Int) := by omega
  have b1 : (b : Int) < 8 := by omega
  have cc := cR c hc
  have zc := zF (5 + c)
  have c0 : (0 : Int) ≤ (c : Int) := by omega
  have c1 : (c : Int) < 8 := by omega
  clear cR zF cFn cAt cSt cKi cPa cH
  go_enter Try.func74, Try.ntmps74
  go_wp2_with fail
  refine plan_begin (fun _ => False) 18 18 rfl (by kernel_rfl) (fun hSk => ?_)
  (refine plan_q 0 rfl (by kernel_rfl) (by kernel_rfl) (by kernel_rfl) rfl rfl (fun _ _ _ _ h => h) hSk (by decide) (by kernel_rfl) (fun K hK => ?_); go_big_quiet_op; with_reducible refine hK _ ?_; clear hK K)
  (refine plan_q 1 rfl (by kernel_rfl) (by kernel_rfl) (by kernel_rfl) rfl rfl (fun _ _ _ _ h => h) hSk (by decide) (by kernel_rfl) (fun K hK => ?_); go_big_quiet_op; with_reducible refine hK _ ?_; clear hK K)
  (refine plan_q 2 rfl (by kernel_rfl) (by kernel_rfl) (by kernel_rfl) rfl rfl (fun _ _ _ _ h => h) hSk (by decide) (by kernel_rfl) (fun K hK => ?_); go_big_quiet_op; with_reducible refine hK _ ?_; clear hK K)
  (refine plan_q 3 rfl (by kernel_rfl) (by kernel_rfl) (by kernel_rfl) rfl rfl (fun _ _ _ _ h => h) hSk (by decide) (by kernel_rfl) (fun K hK => ?_); go_big_quiet_op; with_reducible refine hK _ ?_; clear hK K)
  (refine plan_q 4 rfl (by kernel_rfl) (by kernel_rfl) (by kernel_rfl) rfl rfl (fun _ _ _ _ h => h) hSk (by decide) (by kernel_rfl) (fun K hK => ?_); go_big_quiet_op; with_reducible refine hK _ ?_; clear hK K)
  (refine plan_q 5 rfl (by kernel_rfl) (by kernel_rfl) (by kernel_rfl) rfl rfl (fun _ _ _ _ h => h) hSk (by decide) (by kernel_rfl) (fun K hK => ?_); go_big_quiet_op; with_reducible refine hK _ ?_; clear hK K)
  (refine plan_q 6 rfl (by kernel_rfl) (by kernel_rfl) (by kernel_rfl) rfl rfl (fun _ _ _ _ h => h) hSk (by decide) (by kernel_rfl) (fun K hK => ?_); go_big_quiet_op; with_reducible refine hK _ ?_; clear hK K)
  (refine plan_q 7 rfl (by kernel_rfl) (by kernel_rfl) (by kernel_rfl) rfl rfl (fun _ _ _ _ h => h) hSk (by decide) (by kernel_rfl) (fun K hK => ?_); go_big_quiet_op; with_reducible refine hK _ ?_; clear hK K)
  (refine plan_q 8 rfl (by kernel_rfl) (by kernel_rfl) (by kernel_rfl) rfl rfl (fun _ _ _ _ h => h) hSk (by decide) (by kernel_rfl) (fun K hK => ?_); go_big_quiet_op; with_reducible refine hK _ ?_; clear hK K)
  (refine plan_q 9 rfl (by kernel_rfl) (by kernel_rfl) (by kernel_rfl) rfl rfl (fun _ _ _ _ h => h) hSk (by decide) (by kernel_rfl) (fun K hK => ?_); go_big_quiet_op; with_reducible refine hK _ ?_; clear hK K)
  (refine plan_q 10 rfl (by kernel_rfl) (by kernel_rfl) (by kernel_rfl) rfl rfl (fun _ _ _ _ h => h) hSk (by decide) (by kernel_rfl) (fun K hK => ?_); go_big_quiet_op; with_reducible refine hK _ ?_; clear hK K)
  (refine plan_q 11 rfl (by kernel_rfl) (by kernel_rfl) (by kernel_rfl) rfl rfl (fun _ _ _ _ h => h) hSk (by decide) (by kernel_rfl) (fun K hK => ?_); go_big_quiet_op; with_reducible refine hK _ ?_; clear hK K)
  (refine plan_q 12 rfl (by kernel_rfl) (by kernel_rfl) (by kernel_rfl) rfl rfl (fun _ _ _ _ h => h) hSk (by decide) (by kernel_rfl) (fun K hK => ?_); go_big_quiet_op; with_reducible refine hK _ ?_; clear hK K)
  (refine plan_q 13 rfl (by kernel_rfl) (by kernel_rfl) (by kernel_rfl) rfl rfl (fun _ _ _ _ h => h) hSk (by decide) (by kernel_rfl) (fun K hK => ?_); go_big_quiet_op; with_reducible refine hK _ ?_; clear hK K)
  (refine plan_q 14 rfl (by kernel_rfl) (by kernel_rfl) (by kernel_rfl) rfl rfl (fun _ _ _ _ h => h) hSk (by decide) (by kernel_rfl) (fun K hK => ?_); go_big_quiet_op; with_reducible refine hK _ ?_; clear hK K)
  (refine plan_q 15 rfl (by kernel_rfl) (by kernel_rfl) (by kernel_rfl) rfl rfl (fun _ _ _ _ h => h) hSk (by decide) (by kernel_rfl) (fun K hK => ?_); go_big_quiet_op; with_reducible refine hK _ ?_; clear hK K)
  (refine plan_q 16 rfl (by kernel_rfl) (by kernel_rfl) (by kernel_rfl) rfl rfl (fun _ _ _ _ h => h) hSk (by decide) (by kernel_rfl) (fun K hK => ?_); go_big_quiet_op; with_reducible refine hK _ ?_; clear hK K)
  (refine plan_q 17 rfl (by kernel_rfl) (by kernel_rfl) (by kernel_rfl) rfl rfl (fun _ _ _ _ h => h) hSk (by decide) (by kernel_rfl) (fun K hK => ?_); go_big_quiet_op; with_reducible refine hK _ ?_; clear hK K)
  refine plan_e (by kernel_rfl) ?_
  clear hSk
  go_wp2
  refine plan_begin (fun _ => False) 8 9 rfl (by kernel_rfl) (fun hSk => ?_)
  (refine plan_q 0 rfl (by kernel_rfl) (by kernel_rfl) (by kernel_rfl) rfl rfl (fun _ _ _ _ h => h) hSk (by decide) (by kernel_rfl) (fun K hK => ?_); go_big_quiet_op; with_reducible refine hK _ ?_; clear hK K)
  (refine plan_q 1 rfl (by kernel_rfl) (by kernel_rfl) (by kernel_rfl) rfl rfl (fun _ _ _ _ h => h) hSk (by decide) (by kernel_rfl) (fun K hK => ?_); go_big_quiet_op; with_reducible refine hK _ ?_; clear hK K)
  (refine plan_q 2 rfl (by kernel_rfl) (by kernel_rfl) (by kernel_rfl) rfl rfl (fun _ _ _ _ h => h) hSk (by decide) (by kernel_rfl) (fun K hK => ?_); go_big_quiet_op; with_reducible refine hK _ ?_; clear hK K)
  (refine plan_q 3 rfl (by kernel_rfl) (by kernel_rfl) (by kernel_rfl) rfl rfl (fun _ _ _ _ h => h) hSk (by decide) (by kernel_rfl) (fun K hK => ?_); go_big_quiet_op; with_reducible refine hK _ ?_; clear hK K)
  (refine plan_q 4 rfl (by kernel_rfl) (by kernel_rfl) (by kernel_rfl) rfl rfl (fun _ _ _ _ h => h) hSk (by decide) (by kernel_rfl) (fun K hK => ?_); go_big_quiet_op; with_reducible refine hK _ ?_; clear hK K)
  (refine plan_q 5 rfl (by kernel_rfl) (by kernel_rfl) (by kernel_rfl) rfl rfl (fun _ _ _ _ h => h) hSk (by decide) (by kernel_rfl) (fun K hK => ?_); go_big_quiet_op; with_reducible refine hK _ ?_; clear hK K)
  (refine plan_q 6 rfl (by kernel_rfl) (by kernel_rfl) (by kernel_rfl) rfl rfl (fun _ _ _ _ h => h) hSk (by decide) (by kernel_rfl) (fun K hK => ?_); go_big_quiet_op; with_reducible refine hK _ ?_; clear hK K)
  (refine plan_q 7 rfl (by kernel_rfl) (by kernel_rfl) (by kernel_rfl) rfl rfl (fun _ _ _ _ h => h) hSk (by decide) (by kernel_rfl) (fun K hK => ?_); go_big_quiet_op; with_reducible refine hK _ ?_; clear hK K)
  (refine plan_l 8 rfl (by kernel_rfl) (fun K hK => ?_); go_wp2_with (fail); (try simp only [Exit.then]); (try simp only [Act.put, List.setIfInBounds_toArray, List.set_cons_succ, List.set_cons_zero]); refine hK _ _ (fun hz0 => by exact absurd rfl hz0) (fun hSk1 => ?_); clear hK K hSk)
  refine plan_e (by kernel_rfl) ?_
  clear hSk1
  go_wp2
  go_returns
  exact ⟨rfl, by ((repeat (first | (with_reducible refine heap_drew1 ?_) | (with_reducible refine heap_lt_alloc ?_))); exact heap_near hbf (FrB_put ha _)), by (repeat (first | with_reducible exact Keep.refl _ _ | (with_reducible refine Keep.left ?_) | (with_reducible refine Keep.leftN ?_) | (with_reducible assumption) | (with_reducible refine Keep.setCell ?_ ?hs _; case hs => (first | (exact .inl rfl) | (simp; done) | (right; omega) | (right; simp; omega))) | (with_reducible refine Keep.allocs ?_ (by simp; done) _) | (with_reducible refine Keep.alloc ?_ _) | (with_reducible refine Keep.drew ?_) | (with_reducible refine Keep.drewN ?_ _) | refine Keep.thenBelow ?_ (by assumption) | refine Keep.grown ?_ (by assumption) (by intro k hk; (first | (cases hk; done) | (exfalso; simp [Value.ownBlock] at hk; done) | (simp [Value.ownBlock] at hk; subst hk; (first | (right; simp; omega) | (left; first | rfl | simp)))) ) | refine Keep.trans ?_ (by assumption) | (with_reducible refine Keep.allocs ?_ (by simp; done) _) | refine Keep.alloc ?_ _ | refine Keep.drew ?_ | refine Keep.drewN ?_ _ | refine Keep.setCell ?_ (by first | (exact .inl rfl) | (simp; done) | (right; omega) | (right; simp; omega)) _))⟩
set_option maxHeartbeats 800000 in
theorem reckon5_any (a b c : Nat) (k : Int) (ha : a < 8) (hb : b < 8) (hc : c < 8) :
    Calls Try.prog 74 #[.agg #[P, .int .i64 bd, .int .i64 dp, .pointer (some ⟨bf, 0, none⟩)], .agg #[.int .i64 5, .int .i64 a, .int .i64 b, .int .i64 c, .int .i64 k]] w fun e w' =>
      e = .returned (effV 1 0 0 0 0 0 nilV nilV) ∧ w'.heap[bf]? = some (.cells (FrB pv { f with R := upd f.R a (wrap64 (f.R b * f.R c)) }) 80 (0, 0)) ∧ Keep (fun x => x = bf) w w' := by
  obtain ⟨cFn, cAt, cSt, cKi, cPa, cR, cH, zF, hlt⟩ := fr_cells hbf
  have l1 : bf < w.heap.size + 1 := by omega
  have l2 : bf < w.heap.size + 1 + 1 := by omega
  have l3 : bf < w.heap.size + 1 + 1 + 1 := by omega
  have ca := cR a ha
  have za := zF (5 + a)
  have a0 : (0 : Int) ≤ (a : Int) := by omega
  have a1 : (a : Int) < 8 := by omega
  have cb := cR b hb
  have zb := zF (5 + b)
  have b0 : (0 : Int) ≤ (b : Int) := by omega
  have b1 : (b : Int) < 8 := by omega
  have cc := cR c hc
  have zc := zF (5 + c)
  have c0 : (0 : Int) ≤ (c : Int) := by omega
  have c1 : (c : Int) < 8 := by omega
  clear cR zF cFn cAt cSt cKi cPa cH
  go_enter Try.func74, Try.ntmps74
  go_wp2_with fail
  refine plan_begin (fun _ => False) 18 18 rfl (by kernel_rfl) (fun hSk => ?_)
  (refine plan_q 0 rfl (by kernel_rfl) (by kernel_rfl) (by kernel_rfl) rfl rfl (fun _ _ _ _ h => h) hSk (by decide) (by kernel_rfl) (fun K hK => ?_); go_big_quiet_op; with_reducible refine hK _ ?_; clear hK K)
  (refine plan_q 1 rfl (by kernel_rfl) (by kernel_rfl) (by kernel_rfl) rfl rfl (fun _ _ _ _ h => h) hSk (by decide) (by kernel_rfl) (fun K hK => ?_); go_big_quiet_op; with_reducible refine hK _ ?_; clear hK K)
  (refine plan_q 2 rfl (by kernel_rfl) (by kernel_rfl) (by kernel_rfl) rfl rfl (fun _ _ _ _ h => h) hSk (by decide) (by kernel_rfl) (fun K hK => ?_); go_big_quiet_op; with_reducible refine hK _ ?_; clear hK K)
  (refine plan_q 3 rfl (by kernel_rfl) (by kernel_rfl) (by kernel_rfl) rfl rfl (fun _ _ _ _ h => h) hSk (by decide) (by kernel_rfl) (fun K hK => ?_); go_big_quiet_op; with_reducible refine hK _ ?_; clear hK K)
  (refine plan_q 4 rfl (by kernel_rfl) (by kernel_rfl) (by kernel_rfl) rfl rfl (fun _ _ _ _ h => h) hSk (by decide) (by kernel_rfl) (fun K hK => ?_); go_big_quiet_op; with_reducible refine hK _ ?_; clear hK K)
  (refine plan_q 5 rfl (by kernel_rfl) (by kernel_rfl) (by kernel_rfl) rfl rfl (fun _ _ _ _ h => h) hSk (by decide) (by kernel_rfl) (fun K hK => ?_); go_big_quiet_op; with_reducible refine hK _ ?_; clear hK K)
  (refine plan_q 6 rfl (by kernel_rfl) (by kernel_rfl) (by kernel_rfl) rfl rfl (fun _ _ _ _ h => h) hSk (by decide) (by kernel_rfl) (fun K hK => ?_); go_big_quiet_op; with_reducible refine hK _ ?_; clear hK K)
  (refine plan_q 7 rfl (by kernel_rfl) (by kernel_rfl) (by kernel_rfl) rfl rfl (fun _ _ _ _ h => h) hSk (by decide) (by kernel_rfl) (fun K hK => ?_); go_big_quiet_op; with_reducible refine hK _ ?_; clear hK K)
  (refine plan_q 8 rfl (by kernel_rfl) (by kernel_rfl) (by kernel_rfl) rfl rfl (fun _ _ _ _ h => h) hSk (by decide) (by kernel_rfl) (fun K hK => ?_); go_big_quiet_op; with_reducible refine hK _ ?_; clear hK K)
  (refine plan_q 9 rfl (by kernel_rfl) (by kernel_rfl) (by kernel_rfl) rfl rfl (fun _ _ _ _ h => h) hSk (by decide) (by kernel_rfl) (fun K hK => ?_); go_big_quiet_op; with_reducible refine hK _ ?_; clear hK K)
  (refine plan_q 10 rfl (by kernel_rfl) (by kernel_rfl) (by kernel_rfl) rfl rfl (fun _ _ _ _ h => h) hSk (by decide) (by kernel_rfl) (fun K hK => ?_); go_big_quiet_op; with_reducible refine hK _ ?_; clear hK K)
  (refine plan_q 11 rfl (by kernel_rfl) (by kernel_rfl) (by kernel_rfl) rfl rfl (fun _ _ _ _ h => h) hSk (by decide) (by kernel_rfl) (fun K hK => ?_); go_big_quiet_op; with_reducible refine hK _ ?_; clear hK K)
  (refine plan_q 12 rfl (by kernel_rfl) (by kernel_rfl) (by kernel_rfl) rfl rfl (fun _ _ _ _ h => h) hSk (by decide) (by kernel_rfl) (fun K hK => ?_); go_big_quiet_op; with_reducible refine hK _ ?_; clear hK K)
  (refine plan_q 13 rfl (by kernel_rfl) (by kernel_rfl) (by kernel_rfl) rfl rfl (fun _ _ _ _ h => h) hSk (by decide) (by kernel_rfl) (fun K hK => ?_); go_big_quiet_op; with_reducible refine hK _ ?_; clear hK K)
  (refine plan_q 14 rfl (by kernel_rfl) (by kernel_rfl) (by kernel_rfl) rfl rfl (fun _ _ _ _ h => h) hSk (by decide) (by kernel_rfl) (fun K hK => ?_); go_big_quiet_op; with_reducible refine hK _ ?_; clear hK K)
  (refine plan_q 15 rfl (by kernel_rfl) (by kernel_rfl) (by kernel_rfl) rfl rfl (fun _ _ _ _ h => h) hSk (by decide) (by kernel_rfl) (fun K hK => ?_); go_big_quiet_op; with_reducible refine hK _ ?_; clear hK K)
  (refine plan_q 16 rfl (by kernel_rfl) (by kernel_rfl) (by kernel_rfl) rfl rfl (fun _ _ _ _ h => h) hSk (by decide) (by kernel_rfl) (fun K hK => ?_); go_big_quiet_op; with_reducible refine hK _ ?_; clear hK K)
  (refine plan_q 17 rfl (by kernel_rfl) (by kernel_rfl) (by kernel_rfl) rfl rfl (fun _ _ _ _ h => h) hSk (by decide) (by kernel_rfl) (fun K hK => ?_); go_big_quiet_op; with_reducible refine hK _ ?_; clear hK K)
  refine plan_e (by kernel_rfl) ?_
  clear hSk
  go_wp2
  refine plan_begin (fun _ => False) 8 9 rfl (by kernel_rfl) (fun hSk => ?_)
  (refine plan_q 0 rfl (by kernel_rfl) (by kernel_rfl) (by kernel_rfl) rfl rfl (fun _ _ _ _ h => h) hSk (by decide) (by kernel_rfl) (fun K hK => ?_); go_big_quiet_op; with_reducible refine hK _ ?_; clear hK K)
  (refine plan_q 1 rfl (by kernel_rfl) (by kernel_rfl) (by kernel_rfl) rfl rfl (fun _ _ _ _ h => h) hSk (by decide) (by kernel_rfl) (fun K hK => ?_); go_big_quiet_op; with_reducible refine hK _ ?_; clear hK K)
  (refine plan_q 2 rfl (by kernel_rfl) (by kernel_rfl) (by kernel_rfl) rfl rfl (fun _ _ _ _ h => h) hSk (by decide) (by kernel_rfl) (fun K hK => ?_); go_big_quiet_op; with_reducible refine hK _ ?_; clear hK K)
  (refine plan_q 3 rfl (by kernel_rfl) (by kernel_rfl) (by kernel_rfl) rfl rfl (fun _ _ _ _ h => h) hSk (by decide) (by kernel_rfl) (fun K hK => ?_); go_big_quiet_op; with_reducible refine hK _ ?_; clear hK K)
  (refine plan_q 4 rfl (by kernel_rfl) (by kernel_rfl) (by kernel_rfl) rfl rfl (fun _ _ _ _ h => h) hSk (by decide) (by kernel_rfl) (fun K hK => ?_); go_big_quiet_op; with_reducible refine hK _ ?_; clear hK K)
  (refine plan_q 5 rfl (by kernel_rfl) (by kernel_rfl) (by kernel_rfl) rfl rfl (fun _ _ _ _ h => h) hSk (by decide) (by kernel_rfl) (fun K hK => ?_); go_big_quiet_op; with_reducible refine hK _ ?_; clear hK K)
  (refine plan_q 6 rfl (by kernel_rfl) (by kernel_rfl) (by kernel_rfl) rfl rfl (fun _ _ _ _ h => h) hSk (by decide) (by kernel_rfl) (fun K hK => ?_); go_big_quiet_op; with_reducible refine hK _ ?_; clear hK K)
  (refine plan_q 7 rfl (by kernel_rfl) (by kernel_rfl) (by kernel_rfl) rfl rfl (fun _ _ _ _ h => h) hSk (by decide) (by kernel_rfl) (fun K hK => ?_); go_big_quiet_op; with_reducible refine hK _ ?_; clear hK K)
  (refine plan_l 8 rfl (by kernel_rfl) (fun K hK => ?_); go_wp2_with (fail); (try simp only [Exit.then]); (try simp only [Act.put, List.setIfInBounds_toArray, List.set_cons_succ, List.set_cons_zero]); refine hK _ _ (fun hz0 => by exact absurd rfl hz0) (fun hSk1 => ?_); clear hK K hSk)
  refine plan_e (by kernel_rfl) ?_
  clear hSk1
  go_wp2
  go_returns
  exact ⟨rfl, by ((repeat (first | (with_reducible refine heap_drew1 ?_) | (with_reducible refine heap_lt_alloc ?_))); exact heap_near hbf (FrB_put ha _)), by (repeat (first | with_reducible exact Keep.refl _ _ | (with_reducible refine Keep.left ?_) | (with_reducible refine Keep.leftN ?_) | (with_reducible assumption) | (with_reducible refine Keep.setCell ?_ ?hs _; case hs => (first | (exact .inl rfl) | (simp; done) | (right; omega) | (right; simp; omega))) | (with_reducible refine Keep.allocs ?_ (by simp; done) _) | (with_reducible refine Keep.alloc ?_ _) | (with_reducible refine Keep.drew ?_) | (with_reducible refine Keep.drewN ?_ _) | refine Keep.thenBelow ?_ (by assumption) | refine Keep.grown ?_ (by assumption) (by intro k hk; (first | (cases hk; done) | (exfalso; simp [Value.ownBlock] at hk; done) | (simp [Value.ownBlock] at hk; subst hk; (first | (right; simp; omega) | (left; first | rfl | simp)))) ) | refine Keep.trans ?_ (by assumption) | (with_reducible refine Keep.allocs ?_ (by simp; done) _) | refine Keep.alloc ?_ _ | refine Keep.drew ?_ | refine Keep.drewN ?_ _ | refine Keep.setCell ?_ (by first | (exact .inl rfl) | (simp; done) | (right; omega) | (right; simp; omega)) _))⟩
set_option maxHeartbeats 800000 in
theorem reckon6_any (a b c : Nat) (k : Int) (ha : a < 8) (hb : b < 8) (hc : c < 8) (hn : ¬ f.R c = 0) :
    Calls Try.prog 74 #[.agg #[P, .int .i64 bd, .int .i64 dp, .pointer (some ⟨bf, 0, none⟩)], .agg #[.int .i64 6, .int .i64 a, .int .i64 b, .int .i64 c, .int .i64 k]] w fun e w' =>
      e = .returned (effV 1 0 0 0 0 0 nilV nilV) ∧ w'.heap[bf]? = some (.cells (FrB pv { f with R := upd f.R a (wrap64 ((f.R b).tdiv (f.R c))) }) 80 (0, 0)) ∧ Keep (fun x => x = bf) w w' := by
  obtain ⟨cFn, cAt, cSt, cKi, cPa, cR, cH, zF, hlt⟩ := fr_cells hbf
  have l1 : bf < w.heap.size + 1 := by omega
  have l2 : bf < w.heap.size + 1 + 1 := by omega
  have l3 : bf < w.heap.size + 1 + 1 + 1 := by omega
  have ca := cR a ha
  have za := zF (5 + a)
  have a0 : (0 : Int) ≤ (a : Int) := by omega
  have a1 : (a : Int) < 8 := by omega
  have cb := cR b hb
  have zb := zF (5 + b)
  have b0 : (0 : Int) ≤ (b : Int) := by omega
  have b1 : (b : Int) < 8 := by omega
  have cc := cR c hc
  have zc := zF (5 + c)
  have c0 : (0 : Int) ≤ (c : Int) := by omega
  have c1 : (c : Int) < 8 := by omega
  clear cR zF cFn cAt cSt cKi cPa cH
  have he : (f.R c == 0) = false := by simpa using hn
  go_enter Try.func74, Try.ntmps74
  go_wp2_with fail
  refine plan_begin (fun _ => False) 18 18 rfl (by kernel_rfl) (fun hSk => ?_)
  (refine plan_q 0 rfl (by kernel_rfl) (by kernel_rfl) (by kernel_rfl) rfl rfl (fun _ _ _ _ h => h) hSk (by decide) (by kernel_rfl) (fun K hK => ?_); go_big_quiet_op; with_reducible refine hK _ ?_; clear hK K)
  (refine plan_q 1 rfl (by kernel_rfl) (by kernel_rfl) (by kernel_rfl) rfl rfl (fun _ _ _ _ h => h) hSk (by decide) (by kernel_rfl) (fun K hK => ?_); go_big_quiet_op; with_reducible refine hK _ ?_; clear hK K)
  (refine plan_q 2 rfl (by kernel_rfl) (by kernel_rfl) (by kernel_rfl) rfl rfl (fun _ _ _ _ h => h) hSk (by decide) (by kernel_rfl) (fun K hK => ?_); go_big_quiet_op; with_reducible refine hK _ ?_; clear hK K)
  (refine plan_q 3 rfl (by kernel_rfl) (by kernel_rfl) (by kernel_rfl) rfl rfl (fun _ _ _ _ h => h) hSk (by decide) (by kernel_rfl) (fun K hK => ?_); go_big_quiet_op; with_reducible refine hK _ ?_; clear hK K)
  (refine plan_q 4 rfl (by kernel_rfl) (by kernel_rfl) (by kernel_rfl) rfl rfl (fun _ _ _ _ h => h) hSk (by decide) (by kernel_rfl) (fun K hK => ?_); go_big_quiet_op; with_reducible refine hK _ ?_; clear hK K)
  (refine plan_q 5 rfl (by kernel_rfl) (by kernel_rfl) (by kernel_rfl) rfl rfl (fun _ _ _ _ h => h) hSk (by decide) (by kernel_rfl) (fun K hK => ?_); go_big_quiet_op; with_reducible refine hK _ ?_; clear hK K)
  (refine plan_q 6 rfl (by kernel_rfl) (by kernel_rfl) (by kernel_rfl) rfl rfl (fun _ _ _ _ h => h) hSk (by decide) (by kernel_rfl) (fun K hK => ?_); go_big_quiet_op; with_reducible refine hK _ ?_; clear hK K)
  (refine plan_q 7 rfl (by kernel_rfl) (by kernel_rfl) (by kernel_rfl) rfl rfl (fun _ _ _ _ h => h) hSk (by decide) (by kernel_rfl) (fun K hK => ?_); go_big_quiet_op; with_reducible refine hK _ ?_; clear hK K)
  (refine plan_q 8 rfl (by kernel_rfl) (by kernel_rfl) (by kernel_rfl) rfl rfl (fun _ _ _ _ h => h) hSk (by decide) (by kernel_rfl) (fun K hK => ?_); go_big_quiet_op; with_reducible refine hK _ ?_; clear hK K)
  (refine plan_q 9 rfl (by kernel_rfl) (by kernel_rfl) (by kernel_rfl) rfl rfl (fun _ _ _ _ h => h) hSk (by decide) (by kernel_rfl) (fun K hK => ?_); go_big_quiet_op; with_reducible refine hK _ ?_; clear hK K)
  (refine plan_q 10 rfl (by kernel_rfl) (by kernel_rfl) (by kernel_rfl) rfl rfl (fun _ _ _ _ h => h) hSk (by decide) (by kernel_rfl) (fun K hK => ?_); go_big_quiet_op; with_reducible refine hK _ ?_; clear hK K)
  (refine plan_q 11 rfl (by kernel_rfl) (by kernel_rfl) (by kernel_rfl) rfl rfl (fun _ _ _ _ h => h) hSk (by decide) (by kernel_rfl) (fun K hK => ?_); go_big_quiet_op; with_reducible refine hK _ ?_; clear hK K)
  (refine plan_q 12 rfl (by kernel_rfl) (by kernel_rfl) (by kernel_rfl) rfl rfl (fun _ _ _ _ h => h) hSk (by decide) (by kernel_rfl) (fun K hK => ?_); go_big_quiet_op; with_reducible refine hK _ ?_; clear hK K)
  (refine plan_q 13 rfl (by kernel_rfl) (by kernel_rfl) (by kernel_rfl) rfl rfl (fun _ _ _ _ h => h) hSk (by decide) (by kernel_rfl) (fun K hK => ?_); go_big_quiet_op; with_reducible refine hK _ ?_; clear hK K)
  (refine plan_q 14 rfl (by kernel_rfl) (by kernel_rfl) (by kernel_rfl) rfl rfl (fun _ _ _ _ h => h) hSk (by decide) (by kernel_rfl) (fun K hK => ?_); go_big_quiet_op; with_reducible refine hK _ ?_; clear hK K)
  (refine plan_q 15 rfl (by kernel_rfl) (by kernel_rfl) (by kernel_rfl) rfl rfl (fun _ _ _ _ h => h) hSk (by decide) (by kernel_rfl) (fun K hK => ?_); go_big_quiet_op; with_reducible refine hK _ ?_; clear hK K)
  (refine plan_q 16 rfl (by kernel_rfl) (by kernel_rfl) (by kernel_rfl) rfl rfl (fun _ _ _ _ h => h) hSk (by decide) (by kernel_rfl) (fun K hK => ?_); go_big_quiet_op; with_reducible refine hK _ ?_; clear hK K)
  (refine plan_q 17 rfl (by kernel_rfl) (by kernel_rfl) (by kernel_rfl) rfl rfl (fun _ _ _ _ h => h) hSk (by decide) (by kernel_rfl) (fun K hK => ?_); go_big_quiet_op; with_reducible refine hK _ ?_; clear hK K)
  refine plan_e (by kernel_rfl) ?_
  clear hSk
  go_wp2
  refine plan_begin (fun _ => False) 8 9 rfl (by kernel_rfl) (fun hSk => ?_)
  (refine plan_q 0 rfl (by kernel_rfl) (by kernel_rfl) (by kernel_rfl) rfl rfl (fun _ _ _ _ h => h) hSk (by decide) (by kernel_rfl) (fun K hK => ?_); go_big_quiet_op; with_reducible refine hK _ ?_; clear hK K)
  (refine plan_q 1 rfl (by kernel_rfl) (by kernel_rfl) (by kernel_rfl) rfl rfl (fun _ _ _ _ h => h) hSk (by decide) (by kernel_rfl) (fun K hK => ?_); go_big_quiet_op; with_reducible refine hK _ ?_; clear hK K)
  (refine plan_q 2 rfl (by kernel_rfl) (by kernel_rfl) (by kernel_rfl) rfl rfl (fun _ _ _ _ h => h) hSk (by decide) (by kernel_rfl) (fun K hK => ?_); go_big_quiet_op; with_reducible refine hK _ ?_; clear hK K)
  (refine plan_q 3 rfl (by kernel_rfl) (by kernel_rfl) (by kernel_rfl) rfl rfl (fun _ _ _ _ h => h) hSk (by decide) (by kernel_rfl) (fun K hK => ?_); go_big_quiet_op; with_reducible refine hK _ ?_; clear hK K)
  (refine plan_q 4 rfl (by kernel_rfl) (by kernel_rfl) (by kernel_rfl) rfl rfl (fun _ _ _ _ h => h) hSk (by decide) (by kernel_rfl) (fun K hK => ?_); go_big_quiet_op; with_reducible refine hK _ ?_; clear hK K)
  (refine plan_q 5 rfl (by kernel_rfl) (by kernel_rfl) (by kernel_rfl) rfl rfl (fun _ _ _ _ h => h) hSk (by decide) (by kernel_rfl) (fun K hK => ?_); go_big_quiet_op; with_reducible refine hK _ ?_; clear hK K)
  (refine plan_q 6 rfl (by kernel_rfl) (by kernel_rfl) (by kernel_rfl) rfl rfl (fun _ _ _ _ h => h) hSk (by decide) (by kernel_rfl) (fun K hK => ?_); go_big_quiet_op; with_reducible refine hK _ ?_; clear hK K)
  (refine plan_q 7 rfl (by kernel_rfl) (by kernel_rfl) (by kernel_rfl) rfl rfl (fun _ _ _ _ h => h) hSk (by decide) (by kernel_rfl) (fun K hK => ?_); go_big_quiet_op; with_reducible refine hK _ ?_; clear hK K)
  (refine plan_l 8 rfl (by kernel_rfl) (fun K hK => ?_); go_wp2_with (fail); (try simp only [Exit.then]); (try simp only [Act.put, List.setIfInBounds_toArray, List.set_cons_succ, List.set_cons_zero]); refine hK _ _ (fun hz0 => by exact absurd rfl hz0) (fun hSk1 => ?_); clear hK K hSk)
  refine plan_e (by kernel_rfl) ?_
  clear hSk1
  go_wp2
  go_returns
  exact ⟨rfl, by ((repeat (first | (with_reducible refine heap_drew1 ?_) | (with_reducible refine heap_lt_alloc ?_))); exact heap_near hbf (FrB_put ha _)), by (repeat (first | with_reducible exact Keep.refl _ _ | (with_reducible refine Keep.left ?_) | (with_reducible refine Keep.leftN ?_) | (with_reducible assumption) | (with_reducible refine Keep.setCell ?_ ?hs _; case hs => (first | (exact .inl rfl) | (simp; done) | (right; omega) | (right; simp; omega))) | (with_reducible refine Keep.allocs ?_ (by simp; done) _) | (with_reducible refine Keep.alloc ?_ _) | (with_reducible refine Keep.drew ?_) | (with_reducible refine Keep.drewN ?_ _) | refine Keep.thenBelow ?_ (by assumption) | refine Keep.grown ?_ (by assumption) (by intro k hk; (first | (cases hk; done) | (exfalso; simp [Value.ownBlock] at hk; done) | (simp [Value.ownBlock] at hk; subst hk; (first | (right; simp; omega) | (left; first | rfl | simp)))) ) | refine Keep.trans ?_ (by assumption) | (with_reducible refine Keep.allocs ?_ (by simp; done) _) | refine Keep.alloc ?_ _ | refine Keep.drew ?_ | refine Keep.drewN ?_ _ | refine Keep.setCell ?_ (by first | (exact .inl rfl) | (simp; done) | (right; omega) | (right; simp; omega)) _))⟩
set_option maxHeartbeats 800000 in
theorem reckon60_any (a b c : Nat) (k : Int) (ha : a < 8) (hb : b < 8) (hc : c < 8) (hn : f.R c = 0) :
    Calls Try.prog 74 #[.agg #[P, .int .i64 bd, .int .i64 dp, .pointer (some ⟨bf, 0, none⟩)], .agg #[.int .i64 6, .int .i64 a, .int .i64 b, .int .i64 c, .int .i64 k]] w fun e w' =>
      e = .returned (effV 8 0 0 0 0 1 nilV nilV) ∧ w'.heap[bf]? = some (.cells (FrB pv f) 80 (0, 0)) ∧ Keep (fun x => x = bf) w w' := by
  obtain ⟨cFn, cAt, cSt, cKi, cPa, cR, cH, zF, hlt⟩ := fr_cells hbf
  have l1 : bf < w.heap.size + 1 := by omega
  have l2 : bf < w.heap.size + 1 + 1 := by omega
  have l3 : bf < w.heap.size + 1 + 1 + 1 := by omega
  have ca := cR a ha
  have za := zF (5 + a)
  have a0 : (0 : Int) ≤ (a : Int) := by omega
  have a1 : (a : Int) < 8 := by omega
  have cb := cR b hb
  have zb := zF (5 + b)
  have b0 : (0 : Int) ≤ (b : Int) := by omega
  have b1 : (b : Int) < 8 := by omega
  have cc := cR c hc
  have zc := zF (5 + c)
  have c0 : (0 : Int) ≤ (c : Int) := by omega
  have c1 : (c : Int) < 8 := by omega
  clear cR zF cFn cAt cSt cKi cPa cH
  have he : (f.R c == 0) = true := by simpa using hn
  clear hn
  go_enter Try.func74, Try.ntmps74
  go_wp2_with fail
  refine plan_begin (fun _ => False) 18 18 rfl (by kernel_rfl) (fun hSk => ?_)
  (refine plan_q 0 rfl (by kernel_rfl) (by kernel_rfl) (by kernel_rfl) rfl rfl (fun _ _ _ _ h => h) hSk (by decide) (by kernel_rfl) (fun K hK => ?_); go_big_quiet_op; with_reducible refine hK _ ?_; clear hK K)
  (refine plan_q 1 rfl (by kernel_rfl) (by kernel_rfl) (by kernel_rfl) rfl rfl (fun _ _ _ _ h => h) hSk (by decide) (by kernel_rfl) (fun K hK => ?_); go_big_quiet_op; with_reducible refine hK _ ?_; clear hK K)
  (refine plan_q 2 rfl (by kernel_rfl) (by kernel_rfl) (by kernel_rfl) rfl rfl (fun _ _ _ _ h => h) hSk (by decide) (by kernel_rfl) (fun K hK => ?_); go_big_quiet_op; with_reducible refine hK _ ?_; clear hK K)
  (refine plan_q 3 rfl (by kernel_rfl) (by kernel_rfl) (by kernel_rfl) rfl rfl (fun _ _ _ _ h => h) hSk (by decide) (by kernel_rfl) (fun K hK => ?_); go_big_quiet_op; with_reducible refine hK _ ?_; clear hK K)
  (refine plan_q 4 rfl (by kernel_rfl) (by kernel_rfl) (by kernel_rfl) rfl rfl (fun _ _ _ _ h => h) hSk (by decide) (by kernel_rfl) (fun K hK => ?_); go_big_quiet_op; with_reducible refine hK _ ?_; clear hK K)
  (refine plan_q 5 rfl (by kernel_rfl) (by kernel_rfl) (by kernel_rfl) rfl rfl (fun _ _ _ _ h => h) hSk (by decide) (by kernel_rfl) (fun K hK => ?_); go_big_quiet_op; with_reducible refine hK _ ?_; clear hK K)
  (refine plan_q 6 rfl (by kernel_rfl) (by kernel_rfl) (by kernel_rfl) rfl rfl (fun _ _ _ _ h => h) hSk (by decide) (by kernel_rfl) (fun K hK => ?_); go_big_quiet_op; with_reducible refine hK _ ?_; clear hK K)
  (refine plan_q 7 rfl (by kernel_rfl) (by kernel_rfl) (by kernel_rfl) rfl rfl (fun _ _ _ _ h => h) hSk (by decide) (by kernel_rfl) (fun K hK => ?_); go_big_quiet_op; with_reducible refine hK _ ?_; clear hK K)
  (refine plan_q 8 rfl (by kernel_rfl) (by kernel_rfl) (by kernel_rfl) rfl rfl (fun _ _ _ _ h => h) hSk (by decide) (by kernel_rfl) (fun K hK => ?_); go_big_quiet_op; with_reducible refine hK _ ?_; clear hK K)
  (refine plan_q 9 rfl (by kernel_rfl) (by kernel_rfl) (by kernel_rfl) rfl rfl (fun _ _ _ _ h => h) hSk (by decide) (by kernel_rfl) (fun K hK => ?_); go_big_quiet_op; with_reducible refine hK _ ?_; clear hK K)
  (refine plan_q 10 rfl (by kernel_rfl) (by kernel_rfl) (by kernel_rfl) rfl rfl (fun _ _ _ _ h => h) hSk (by decide) (by kernel_rfl) (fun K hK => ?_); go_big_quiet_op; with_reducible refine hK _ ?_; clear hK K)
  (refine plan_q 11 rfl (by kernel_rfl) (by kernel_rfl) (by kernel_rfl) rfl rfl (fun _ _ _ _ h => h) hSk (by decide) (by kernel_rfl) (fun K hK => ?_); go_big_quiet_op; with_reducible refine hK _ ?_; clear hK K)
  (refine plan_q 12 rfl (by kernel_rfl) (by kernel_rfl) (by kernel_rfl) rfl rfl (fun _ _ _ _ h => h) hSk (by decide) (by kernel_rfl) (fun K hK => ?_); go_big_quiet_op; with_reducible refine hK _ ?_; clear hK K)
  (refine plan_q 13 rfl (by kernel_rfl) (by kernel_rfl) (by kernel_rfl) rfl rfl (fun _ _ _ _ h => h) hSk (by decide) (by kernel_rfl) (fun K hK => ?_); go_big_quiet_op; with_reducible refine hK _ ?_; clear hK K)
  (refine plan_q 14 rfl (by kernel_rfl) (by kernel_rfl) (by kernel_rfl) rfl rfl (fun _ _ _ _ h => h) hSk (by decide) (by kernel_rfl) (fun K hK => ?_); go_big_quiet_op; with_reducible refine hK _ ?_; clear hK K)
  (refine plan_q 15 rfl (by kernel_rfl) (by kernel_rfl) (by kernel_rfl) rfl rfl (fun _ _ _ _ h => h) hSk (by decide) (by kernel_rfl) (fun K hK => ?_); go_big_quiet_op; with_reducible refine hK _ ?_; clear hK K)
  (refine plan_q 16 rfl (by kernel_rfl) (by kernel_rfl) (by kernel_rfl) rfl rfl (fun _ _ _ _ h => h) hSk (by decide) (by kernel_rfl) (fun K hK => ?_); go_big_quiet_op; with_reducible refine hK _ ?_; clear hK K)
  (refine plan_q 17 rfl (by kernel_rfl) (by kernel_rfl) (by kernel_rfl) rfl rfl (fun _ _ _ _ h => h) hSk (by decide) (by kernel_rfl) (fun K hK => ?_); go_big_quiet_op; with_reducible refine hK _ ?_; clear hK K)
  refine plan_e (by kernel_rfl) ?_
  clear hSk
  go_wp2
  go_returns
  exact ⟨rfl, by ((repeat (first | (with_reducible refine heap_drew1 ?_) | (with_reducible refine heap_lt_alloc ?_))); exact hbf), by (repeat (first | with_reducible exact Keep.refl _ _ | (with_reducible refine Keep.left ?_) | (with_reducible refine Keep.leftN ?_) | (with_reducible assumption) | (with_reducible refine Keep.setCell ?_ ?hs _; case hs => (first | (exact .inl rfl) | (simp; done) | (right; omega) | (right; simp; omega))) | (with_reducible refine Keep.allocs ?_ (by simp; done) _) | (with_reducible refine Keep.alloc ?_ _) | (with_reducible refine Keep.drew ?_) | (with_reducible refine Keep.drewN ?_ _) | refine Keep.thenBelow ?_ (by assumption) | refine Keep.grown ?_ (by assumption) (by intro k hk; (first | (cases hk; done) | (exfalso; simp [Value.ownBlock] at hk; done) | (simp [Value.ownBlock] at hk; subst hk; (first | (right; simp; omega) | (left; first | rfl | simp)))) ) | refine Keep.trans ?_ (by assumption) | (with_reducible refine Keep.allocs ?_ (by simp; done) _) | refine Keep.alloc ?_ _ | refine Keep.drew ?_ | refine Keep.drewN ?_ _ | refine Keep.setCell ?_ (by first | (exact .inl rfl) | (simp; done) | (right; omega) | (right; simp; omega)) _))⟩
set_option maxHeartbeats 800000 in
theorem reckon71_any (a b c : Nat) (k : Int) (ha : a < 8) (hb : b < 8) (hc : c < 8) (hn : f.R b < f.R c) :
    Calls Try.prog 74 #[.agg #[P, .int .i64 bd, .int .i64 dp, .pointer (some ⟨bf, 0, none⟩)], .agg #[.int .i64 7, .int .i64 a, .int .i64 b, .int .i64 c, .int .i64 k]] w fun e w' =>
      e = .returned (effV 1 0 0 0 0 0 nilV nilV) ∧ w'.heap[bf]? = some (.cells (FrB pv { f with R := upd f.R a (1) }) 80 (0, 0)) ∧ Keep (fun x => x = bf) w w' := by
  obtain ⟨cFn, cAt, cSt, cKi, cPa, cR, cH, zF, hlt⟩ := fr_cells hbf
  have l1 : bf < w.heap.size + 1 := by omega
  have l2 : bf < w.heap.size + 1 + 1 := by omega
  have l3 : bf < w.heap.size + 1 + 1 + 1 := by omega
  have ca := cR a ha
  have za := zF (5 + a)
  have a0 : (0 : Int) ≤ (a : Int) := by omega
  have a1 : (a : Int) < 8 := by omega
  have cb := cR b hb
  have zb := zF (5 + b)
  have b0 : (0 : Int) ≤ (b : Int) := by omega
  have b1 : (b : Int) < 8 := by omega
  have cc := cR c hc
  have zc := zF (5 + c)
  have c0 : (0 : Int) ≤ (c : Int) := by omega
  have c1 : (c : Int) < 8 := by omega
  clear cR zF cFn cAt cSt cKi cPa cH
  have he : decide (f.R b < f.R c) = true := by simpa using hn
  clear hn
  go_enter Try.func74, Try.ntmps74
  go_wp2_with fail
  refine plan_begin (fun _ => False) 18 18 rfl (by kernel_rfl) (fun hSk => ?_)
  (refine plan_q 0 rfl (by kernel_rfl) (by kernel_rfl) (by kernel_rfl) rfl rfl (fun _ _ _ _ h => h) hSk (by decide) (by kernel_rfl) (fun K hK => ?_); go_big_quiet_op; with_reducible refine hK _ ?_; clear hK K)
  (refine plan_q 1 rfl (by kernel_rfl) (by kernel_rfl) (by kernel_rfl) rfl rfl (fun _ _ _ _ h => h) hSk (by decide) (by kernel_rfl) (fun K hK => ?_); go_big_quiet_op; with_reducible refine hK _ ?_; clear hK K)
  (refine plan_q 2 rfl (by kernel_rfl) (by kernel_rfl) (by kernel_rfl) rfl rfl (fun _ _ _ _ h => h) hSk (by decide) (by kernel_rfl) (fun K hK => ?_); go_big_quiet_op; with_reducible refine hK _ ?_; clear hK K)
  (refine plan_q 3 rfl (by kernel_rfl) (by kernel_rfl) (by kernel_rfl) rfl rfl (fun _ _ _ _ h => h) hSk (by decide) (by kernel_rfl) (fun K hK => ?_); go_big_quiet_op; with_reducible refine hK _ ?_; clear hK K)
  (refine plan_q 4 rfl (by kernel_rfl) (by kernel_rfl) (by kernel_rfl) rfl rfl (fun _ _ _ _ h => h) hSk (by decide) (by kernel_rfl) (fun K hK => ?_); go_big_quiet_op; with_reducible refine hK _ ?_; clear hK K)
  (refine plan_q 5 rfl (by kernel_rfl) (by kernel_rfl) (by kernel_rfl) rfl rfl (fun _ _ _ _ h => h) hSk (by decide) (by kernel_rfl) (fun K hK => ?_); go_big_quiet_op; with_reducible refine hK _ ?_; clear hK K)
  (refine plan_q 6 rfl (by kernel_rfl) (by kernel_rfl) (by kernel_rfl) rfl rfl (fun _ _ _ _ h => h) hSk (by decide) (by kernel_rfl) (fun K hK => ?_); go_big_quiet_op; with_reducible refine hK _ ?_; clear hK K)
  (refine plan_q 7 rfl (by kernel_rfl) (by kernel_rfl) (by kernel_rfl) rfl rfl (fun _ _ _ _ h => h) hSk (by decide) (by kernel_rfl) (fun K hK => ?_); go_big_quiet_op; with_reducible refine hK _ ?_; clear hK K)
  (refine plan_q 8 rfl (by kernel_rfl) (by kernel_rfl) (by kernel_rfl) rfl rfl (fun _ _ _ _ h => h) hSk (by decide) (by kernel_rfl) (fun K hK => ?_); go_big_quiet_op; with_reducible refine hK _ ?_; clear hK K)
  (refine plan_q 9 rfl (by kernel_rfl) (by kernel_rfl) (by kernel_rfl) rfl rfl (fun _ _ _ _ h => h) hSk (by decide) (by kernel_rfl) (fun K hK => ?_); go_big_quiet_op; with_reducible refine hK _ ?_; clear hK K)
  (refine plan_q 10 rfl (by kernel_rfl) (by kernel_rfl) (by kernel_rfl) rfl rfl (fun _ _ _ _ h => h) hSk (by decide) (by kernel_rfl) (fun K hK => ?_); go_big_quiet_op; with_reducible refine hK _ ?_; clear hK K)
  (refine plan_q 11 rfl (by kernel_rfl) (by kernel_rfl) (by kernel_rfl) rfl rfl (fun _ _ _ _ h => h) hSk (by decide) (by kernel_rfl) (fun K hK => ?_); go_big_quiet_op; with_reducible refine hK _ ?_; clear hK K)
  (refine plan_q 12 rfl (by kernel_rfl) (by kernel_rfl) (by kernel_rfl) rfl rfl (fun _ _ _ _ h => h) hSk (by decide) (by kernel_rfl) (fun K hK => ?_); go_big_quiet_op; with_reducible refine hK _ ?_; clear hK K)
  (refine plan_q 13 rfl (by kernel_rfl) (by kernel_rfl) (by kernel_rfl) rfl rfl (fun _ _ _ _ h => h) hSk (by decide) (by kernel_rfl) (fun K hK => ?_); go_big_quiet_op; with_reducible refine hK _ ?_; clear hK K)
  (refine plan_q 14 rfl (by kernel_rfl) (by kernel_rfl) (by kernel_rfl) rfl rfl (fun _ _ _ _ h => h) hSk (by decide) (by kernel_rfl) (fun K hK => ?_); go_big_quiet_op; with_reducible refine hK _ ?_; clear hK K)
  (refine plan_q 15 rfl (by kernel_rfl) (by kernel_rfl) (by kernel_rfl) rfl rfl (fun _ _ _ _ h => h) hSk (by decide) (by kernel_rfl) (fun K hK => ?_); go_big_quiet_op; with_reducible refine hK _ ?_; clear hK K)
  (refine plan_q 16 rfl (by kernel_rfl) (by kernel_rfl) (by kernel_rfl) rfl rfl (fun _ _ _ _ h => h) hSk (by decide) (by kernel_rfl) (fun K hK => ?_); go_big_quiet_op; with_reducible refine hK _ ?_; clear hK K)
  (refine plan_q 17 rfl (by kernel_rfl) (by kernel_rfl) (by kernel_rfl) rfl rfl (fun _ _ _ _ h => h) hSk (by decide) (by kernel_rfl) (fun K hK => ?_); go_big_quiet_op; with_reducible refine hK _ ?_; clear hK K)
  refine plan_e (by kernel_rfl) ?_
  clear hSk
  go_wp2
  refine plan_begin (fun _ => False) 8 9 rfl (by kernel_rfl) (fun hSk => ?_)
  (refine plan_q 0 rfl (by kernel_rfl) (by kernel_rfl) (by kernel_rfl) rfl rfl (fun _ _ _ _ h => h) hSk (by decide) (by kernel_rfl) (fun K hK => ?_); go_big_quiet_op; with_reducible refine hK _ ?_; clear hK K)
  (refine plan_q 1 rfl (by kernel_rfl) (by kernel_rfl) (by kernel_rfl) rfl rfl (fun _ _ _ _ h => h) hSk (by decide) (by kernel_rfl) (fun K hK => ?_); go_big_quiet_op; with_reducible refine hK _ ?_; clear hK K)
  (refine plan_q 2 rfl (by kernel_rfl) (by kernel_rfl) (by kernel_rfl) rfl rfl (fun _ _ _ _ h => h) hSk (by decide) (by kernel_rfl) (fun K hK => ?_); go_big_quiet_op; with_reducible refine hK _ ?_; clear hK K)
  (refine plan_q 3 rfl (by kernel_rfl) (by kernel_rfl) (by kernel_rfl) rfl rfl (fun _ _ _ _ h => h) hSk (by decide) (by kernel_rfl) (fun K hK => ?_); go_big_quiet_op; with_reducible refine hK _ ?_; clear hK K)
  (refine plan_q 4 rfl (by kernel_rfl) (by kernel_rfl) (by kernel_rfl) rfl rfl (fun _ _ _ _ h => h) hSk (by decide) (by kernel_rfl) (fun K hK => ?_); go_big_quiet_op; with_reducible refine hK _ ?_; clear hK K)
  (refine plan_q 5 rfl (by kernel_rfl) (by kernel_rfl) (by kernel_rfl) rfl rfl (fun _ _ _ _ h => h) hSk (by decide) (by kernel_rfl) (fun K hK => ?_); go_big_quiet_op; with_reducible refine hK _ ?_; clear hK K)
  (refine plan_q 6 rfl (by kernel_rfl) (by kernel_rfl) (by kernel_rfl) rfl rfl (fun _ _ _ _ h => h) hSk (by decide) (by kernel_rfl) (fun K hK => ?_); go_big_quiet_op; with_reducible refine hK _ ?_; clear hK K)
  (refine plan_q 7 rfl (by kernel_rfl) (by kernel_rfl) (by kernel_rfl) rfl rfl (fun _ _ _ _ h => h) hSk (by decide) (by kernel_rfl) (fun K hK => ?_); go_big_quiet_op; with_reducible refine hK _ ?_; clear hK K)
  (refine plan_l 8 rfl (by kernel_rfl) (fun K hK => ?_); go_wp2_with (fail); (try simp only [Exit.then]); (try simp only [Act.put, List.setIfInBounds_toArray, List.set_cons_succ, List.set_cons_zero]); refine hK _ _ (fun hz0 => by exact absurd rfl hz0) (fun hSk1 => ?_); clear hK K hSk)
  refine plan_e (by kernel_rfl) ?_
  clear hSk1
  go_wp2
  go_returns
  exact ⟨rfl, by ((repeat (first | (with_reducible refine heap_drew1 ?_) | (with_reducible refine heap_lt_alloc ?_))); exact heap_near hbf (FrB_put ha _)), by (repeat (first | with_reducible exact Keep.refl _ _ | (with_reducible refine Keep.left ?_) | (with_reducible refine Keep.leftN ?_) | (with_reducible assumption) | (with_reducible refine Keep.setCell ?_ ?hs _; case hs => (first | (exact .inl rfl) | (simp; done) | (right; omega) | (right; simp; omega))) | (with_reducible refine Keep.allocs ?_ (by simp; done) _) | (with_reducible refine Keep.alloc ?_ _) | (with_reducible refine Keep.drew ?_) | (with_reducible refine Keep.drewN ?_ _) | refine Keep.thenBelow ?_ (by assumption) | refine Keep.grown ?_ (by assumption) (by intro k hk; (first | (cases hk; done) | (exfalso; simp [Value.ownBlock] at hk; done) | (simp [Value.ownBlock] at hk; subst hk; (first | (right; simp; omega) | (left; first | rfl | simp)))) ) | refine Keep.trans ?_ (by assumption) | (with_reducible refine Keep.allocs ?_ (by simp; done) _) | refine Keep.alloc ?_ _ | refine Keep.drew ?_ | refine Keep.drewN ?_ _ | refine Keep.setCell ?_ (by first | (exact .inl rfl) | (simp; done) | (right; omega) | (right; simp; omega)) _))⟩
set_option maxHeartbeats 800000 in
theorem reckon70_any (a b c : Nat) (k : Int) (ha : a < 8) (hb : b < 8) (hc : c < 8) (hn : ¬ f.R b < f.R c) :
    Calls Try.prog 74 #[.agg #[P, .int .i64 bd, .int .i64 dp, .pointer (some ⟨bf, 0, none⟩)], .agg #[.int .i64 7, .int .i64 a, .int .i64 b, .int .i64 c, .int .i64 k]] w fun e w' =>
      e = .returned (effV 1 0 0 0 0 0 nilV nilV) ∧ w'.heap[bf]? = some (.cells (FrB pv { f with R := upd f.R a (0) }) 80 (0, 0)) ∧ Keep (fun x => x = bf) w w' := by
  obtain ⟨cFn, cAt, cSt, cKi, cPa, cR, cH, zF, hlt⟩ := fr_cells hbf
  have l1 : bf < w.heap.size + 1 := by omega
  have l2 : bf < w.heap.size + 1 + 1 := by omega
  have l3 : bf < w.heap.size + 1 + 1 + 1 := by omega
  have ca := cR a ha
  have za := zF (5 + a)
  have a0 : (0 : Int) ≤ (a : Int) := by omega
  have a1 : (a : Int) < 8 := by omega
  have cb := cR b hb
  have zb := zF (5 + b)
  have b0 : (0 : Int) ≤ (b : Int) := by omega
  have b1 : (b : Int) < 8 := by omega
  have cc := cR c hc
  have zc := zF (5 + c)
  have c0 : (0 : Int) ≤ (c : Int) := by omega
  have c1 : (c : Int) < 8 := by omega
  clear cR zF cFn cAt cSt cKi cPa cH
  have he : decide (f.R b < f.R c) = false := by simpa using hn
  clear hn
  go_enter Try.func74, Try.ntmps74
  go_wp2_with fail
  refine plan_begin (fun _ => False) 18 18 rfl (by kernel_rfl) (fun hSk => ?_)
  (refine plan_q 0 rfl (by kernel_rfl) (by kernel_rfl) (by kernel_rfl) rfl rfl (fun _ _ _ _ h => h) hSk (by decide) (by kernel_rfl) (fun K hK => ?_); go_big_quiet_op; with_reducible refine hK _ ?_; clear hK K)
  (refine plan_q 1 rfl (by kernel_rfl) (by kernel_rfl) (by kernel_rfl) rfl rfl (fun _ _ _ _ h => h) hSk (by decide) (by kernel_rfl) (fun K hK => ?_); go_big_quiet_op; with_reducible refine hK _ ?_; clear hK K)
  (refine plan_q 2 rfl (by kernel_rfl) (by kernel_rfl) (by kernel_rfl) rfl rfl (fun _ _ _ _ h => h) hSk (by decide) (by kernel_rfl) (fun K hK => ?_); go_big_quiet_op; with_reducible refine hK _ ?_; clear hK K)
  (refine plan_q 3 rfl (by kernel_rfl) (by kernel_rfl) (by kernel_rfl) rfl rfl (fun _ _ _ _ h => h) hSk (by decide) (by kernel_rfl) (fun K hK => ?_); go_big_quiet_op; with_reducible refine hK _ ?_; clear hK K)
  (refine plan_q 4 rfl (by kernel_rfl) (by kernel_rfl) (by kernel_rfl) rfl rfl (fun _ _ _ _ h => h) hSk (by decide) (by kernel_rfl) (fun K hK => ?_); go_big_quiet_op; with_reducible refine hK _ ?_; clear hK K)
  (refine plan_q 5 rfl (by kernel_rfl) (by kernel_rfl) (by kernel_rfl) rfl rfl (fun _ _ _ _ h => h) hSk (by decide) (by kernel_rfl) (fun K hK => ?_); go_big_quiet_op; with_reducible refine hK _ ?_; clear hK K)
  (refine plan_q 6 rfl (by kernel_rfl) (by kernel_rfl) (by kernel_rfl) rfl rfl (fun _ _ _ _ h => h) hSk (by decide) (by kernel_rfl) (fun K hK => ?_); go_big_quiet_op; with_reducible refine hK _ ?_; clear hK K)
  (refine plan_q 7 rfl (by kernel_rfl) (by kernel_rfl) (by kernel_rfl) rfl rfl (fun _ _ _ _ h => h) hSk (by decide) (by kernel_rfl) (fun K hK => ?_); go_big_quiet_op; with_reducible refine hK _ ?_; clear hK K)
  (refine plan_q 8 rfl (by kernel_rfl) (by kernel_rfl) (by kernel_rfl) rfl rfl (fun _ _ _ _ h => h) hSk (by decide) (by kernel_rfl) (fun K hK => ?_); go_big_quiet_op; with_reducible refine hK _ ?_; clear hK K)
  (refine plan_q 9 rfl (by kernel_rfl) (by kernel_rfl) (by kernel_rfl) rfl rfl (fun _ _ _ _ h => h) hSk (by decide) (by kernel_rfl) (fun K hK => ?_); go_big_quiet_op; with_reducible refine hK _ ?_; clear hK K)
  (refine plan_q 10 rfl (by kernel_rfl) (by kernel_rfl) (by kernel_rfl) rfl rfl (fun _ _ _ _ h => h) hSk (by decide) (by kernel_rfl) (fun K hK => ?_); go_big_quiet_op; with_reducible refine hK _ ?_; clear hK K)
  (refine plan_q 11 rfl (by kernel_rfl) (by kernel_rfl) (by kernel_rfl) rfl rfl (fun _ _ _ _ h => h) hSk (by decide) (by kernel_rfl) (fun K hK => ?_); go_big_quiet_op; with_reducible refine hK _ ?_; clear hK K)
  (refine plan_q 12 rfl (by kernel_rfl) (by kernel_rfl) (by kernel_rfl) rfl rfl (fun _ _ _ _ h => h) hSk (by decide) (by kernel_rfl) (fun K hK => ?_); go_big_quiet_op; with_reducible refine hK _ ?_; clear hK K)
  (refine plan_q 13 rfl (by kernel_rfl) (by kernel_rfl) (by kernel_rfl) rfl rfl (fun _ _ _ _ h => h) hSk (by decide) (by kernel_rfl) (fun K hK => ?_); go_big_quiet_op; with_reducible refine hK _ ?_; clear hK K)
  (refine plan_q 14 rfl (by kernel_rfl) (by kernel_rfl) (by kernel_rfl) rfl rfl (fun _ _ _ _ h => h) hSk (by decide) (by kernel_rfl) (fun K hK => ?_); go_big_quiet_op; with_reducible refine hK _ ?_; clear hK K)
  (refine plan_q 15 rfl (by kernel_rfl) (by kernel_rfl) (by kernel_rfl) rfl rfl (fun _ _ _ _ h => h) hSk (by decide) (by kernel_rfl) (fun K hK => ?_); go_big_quiet_op; with_reducible refine hK _ ?_; clear hK K)
  (refine plan_q 16 rfl (by kernel_rfl) (by kernel_rfl) (by kernel_rfl) rfl rfl (fun _ _ _ _ h => h) hSk (by decide) (by kernel_rfl) (fun K hK => ?_); go_big_quiet_op; with_reducible refine hK _ ?_; clear hK K)
  (refine plan_q 17 rfl (by kernel_rfl) (by kernel_rfl) (by kernel_rfl) rfl rfl (fun _ _ _ _ h => h) hSk (by decide) (by kernel_rfl) (fun K hK => ?_); go_big_quiet_op; with_reducible refine hK _ ?_; clear hK K)
  refine plan_e (by kernel_rfl) ?_
  clear hSk
  go_wp2
  refine plan_begin (fun _ => False) 8 9 rfl (by kernel_rfl) (fun hSk => ?_)
  (refine plan_q 0 rfl (by kernel_rfl) (by kernel_rfl) (by kernel_rfl) rfl rfl (fun _ _ _ _ h => h) hSk (by decide) (by kernel_rfl) (fun K hK => ?_); go_big_quiet_op; with_reducible refine hK _ ?_; clear hK K)
  (refine plan_q 1 rfl (by kernel_rfl) (by kernel_rfl) (by kernel_rfl) rfl rfl (fun _ _ _ _ h => h) hSk (by decide) (by kernel_rfl) (fun K hK => ?_); go_big_quiet_op; with_reducible refine hK _ ?_; clear hK K)
  (refine plan_q 2 rfl (by kernel_rfl) (by kernel_rfl) (by kernel_rfl) rfl rfl (fun _ _ _ _ h => h) hSk (by decide) (by kernel_rfl) (fun K hK => ?_); go_big_quiet_op; with_reducible refine hK _ ?_; clear hK K)
  (refine plan_q 3 rfl (by kernel_rfl) (by kernel_rfl) (by kernel_rfl) rfl rfl (fun _ _ _ _ h => h) hSk (by decide) (by kernel_rfl) (fun K hK => ?_); go_big_quiet_op; with_reducible refine hK _ ?_; clear hK K)
  (refine plan_q 4 rfl (by kernel_rfl) (by kernel_rfl) (by kernel_rfl) rfl rfl (fun _ _ _ _ h => h) hSk (by decide) (by kernel_rfl) (fun K hK => ?_); go_big_quiet_op; with_reducible refine hK _ ?_; clear hK K)
  (refine plan_q 5 rfl (by kernel_rfl) (by kernel_rfl) (by kernel_rfl) rfl rfl (fun _ _ _ _ h => h) hSk (by decide) (by kernel_rfl) (fun K hK => ?_); go_big_quiet_op; with_reducible refine hK _ ?_; clear hK K)
  (refine plan_q 6 rfl (by kernel_rfl) (by kernel_rfl) (by kernel_rfl) rfl rfl (fun _ _ _ _ h => h) hSk (by decide) (by kernel_rfl) (fun K hK => ?_); go_big_quiet_op; with_reducible refine hK _ ?_; clear hK K)
  (refine plan_q 7 rfl (by kernel_rfl) (by kernel_rfl) (by kernel_rfl) rfl rfl (fun _ _ _ _ h => h) hSk (by decide) (by kernel_rfl) (fun K hK => ?_); go_big_quiet_op; with_reducible refine hK _ ?_; clear hK K)
  (refine plan_l 8 rfl (by kernel_rfl) (fun K hK => ?_); go_wp2_with (fail); (try simp only [Exit.then]); (try simp only [Act.put, List.setIfInBounds_toArray, List.set_cons_succ, List.set_cons_zero]); refine hK _ _ (fun hz0 => by exact absurd rfl hz0) (fun hSk1 => ?_); clear hK K hSk)
  refine plan_e (by kernel_rfl) ?_
  clear hSk1
  go_wp2
  go_returns
  exact ⟨rfl, by ((repeat (first | (with_reducible refine heap_drew1 ?_) | (with_reducible refine heap_lt_alloc ?_))); exact heap_near hbf (FrB_put ha _)), by (repeat (first | with_reducible exact Keep.refl _ _ | (with_reducible refine Keep.left ?_) | (with_reducible refine Keep.leftN ?_) | (with_reducible assumption) | (with_reducible refine Keep.setCell ?_ ?hs _; case hs => (first | (exact .inl rfl) | (simp; done) | (right; omega) | (right; simp; omega))) | (with_reducible refine Keep.allocs ?_ (by simp; done) _) | (with_reducible refine Keep.alloc ?_ _) | (with_reducible refine Keep.drew ?_) | (with_reducible refine Keep.drewN ?_ _) | refine Keep.thenBelow ?_ (by assumption) | refine Keep.grown ?_ (by assumption) (by intro k hk; (first | (cases hk; done) | (exfalso; simp [Value.ownBlock] at hk; done) | (simp [Value.ownBlock] at hk; subst hk; (first | (right; simp; omega) | (left; first | rfl | simp)))) ) | refine Keep.trans ?_ (by assumption) | (with_reducible refine Keep.allocs ?_ (by simp; done) _) | refine Keep.alloc ?_ _ | refine Keep.drew ?_ | refine Keep.drewN ?_ _ | refine Keep.setCell ?_ (by first | (exact .inl rfl) | (simp; done) | (right; omega) | (right; simp; omega)) _))⟩
set_option maxHeartbeats 800000 in
theorem reckon81_any (a b c : Nat) (k : Int) (ha : a < 8) (hb : b < 8) (hc : c < 8) (hn : f.R b = f.R c) :
    Calls Try.prog 74 #[.agg #[P, .int .i64 bd, .int .i64 dp, .pointer (some ⟨bf, 0, none⟩)], .agg #[.int .i64 8, .int .i64 a, .int .i64 b, .int .i64 c, .int .i64 k]] w fun e w' =>
      e = .returned (effV 1 0 0 0 0 0 nilV nilV) ∧ w'.heap[bf]? = some (.cells (FrB pv { f with R := upd f.R a (1) }) 80 (0, 0)) ∧ Keep (fun x => x = bf) w w' := by
  obtain ⟨cFn, cAt, cSt, cKi, cPa, cR, cH, zF, hlt⟩ := fr_cells hbf
  have l1 : bf < w.heap.size + 1 := by omega
  have l2 : bf < w.heap.size + 1 + 1 := by omega
  have l3 : bf < w.heap.size + 1 + 1 + 1 := by omega
  have ca := cR a ha
  have za := zF (5 + a)
  have a0 : (0 : Int) ≤ (a : Int) := by omega
  have a1 : (a : Int) < 8 := by omega
  have cb := cR b hb
  have zb := zF (5 + b)
  have b0 : (0 : Int) ≤ (b : Int) := by omega
  have b1 : (b : Int) < 8 := by omega
  have cc := cR c hc
  have zc := zF (5 + c)
  have c0 : (0 : Int) ≤ (c : Int) := by omega
  have c1 : (c : Int) < 8 := by omega
  clear cR zF cFn cAt cSt cKi cPa cH
  have he : (f.R b == f.R c) = true := by simpa using hn
  clear hn
  go_enter Try.func74, Try.ntmps74
  go_wp2_with fail
  refine plan_begin (fun _ => False) 18 18 rfl (by kernel_rfl) (fun hSk => ?_)
  (refine plan_q 0 rfl (by kernel_rfl) (by kernel_rfl) (by kernel_rfl) rfl rfl (fun _ _ _ _ h => h) hSk (by decide) (by kernel_rfl) (fun K hK => ?_); go_big_quiet_op; with_reducible refine hK _ ?_; clear hK K)
  (refine plan_q 1 rfl (by kernel_rfl) (by kernel_rfl) (by kernel_rfl) rfl rfl (fun _ _ _ _ h => h) hSk (by decide) (by kernel_rfl) (fun K hK => ?_); go_big_quiet_op; with_reducible refine hK _ ?_; clear hK K)
  (refine plan_q 2 rfl (by kernel_rfl) (by kernel_rfl) (by kernel_rfl) rfl rfl (fun _ _ _ _ h => h) hSk (by decide) (by kernel_rfl) (fun K hK => ?_); go_big_quiet_op; with_reducible refine hK _ ?_; clear hK K)
  (refine plan_q 3 rfl (by kernel_rfl) (by kernel_rfl) (by kernel_rfl) rfl rfl (fun _ _ _ _ h => h) hSk (by decide) (by kernel_rfl) (fun K hK => ?_); go_big_quiet_op; with_reducible refine hK _ ?_; clear hK K)
  (refine plan_q 4 rfl (by kernel_rfl) (by kernel_rfl) (by kernel_rfl) rfl rfl (fun _ _ _ _ h => h) hSk (by decide) (by kernel_rfl) (fun K hK => ?_); go_big_quiet_op; with_reducible refine hK _ ?_; clear hK K)
  (refine plan_q 5 rfl (by kernel_rfl) (by kernel_rfl) (by kernel_rfl) rfl rfl (fun _ _ _ _ h => h) hSk (by decide) (by kernel_rfl) (fun K hK => ?_); go_big_quiet_op; with_reducible refine hK _ ?_; clear hK K)
  (refine plan_q 6 rfl (by kernel_rfl) (by kernel_rfl) (by kernel_rfl) rfl rfl (fun _ _ _ _ h => h) hSk (by decide) (by kernel_rfl) (fun K hK => ?_); go_big_quiet_op; with_reducible refine hK _ ?_; clear hK K)
  (refine plan_q 7 rfl (by kernel_rfl) (by kernel_rfl) (by kernel_rfl) rfl rfl (fun _ _ _ _ h => h) hSk (by decide) (by kernel_rfl) (fun K hK => ?_); go_big_quiet_op; with_reducible refine hK _ ?_; clear hK K)
  (refine plan_q 8 rfl (by kernel_rfl) (by kernel_rfl) (by kernel_rfl) rfl rfl (fun _ _ _ _ h => h) hSk (by decide) (by kernel_rfl) (fun K hK => ?_); go_big_quiet_op; with_reducible refine hK _ ?_; clear hK K)
  (refine plan_q 9 rfl (by kernel_rfl) (by kernel_rfl) (by kernel_rfl) rfl rfl (fun _ _ _ _ h => h) hSk (by decide) (by kernel_rfl) (fun K hK => ?_); go_big_quiet_op; with_reducible refine hK _ ?_; clear hK K)
  (refine plan_q 10 rfl (by kernel_rfl) (by kernel_rfl) (by kernel_rfl) rfl rfl (fun _ _ _ _ h => h) hSk (by decide) (by kernel_rfl) (fun K hK => ?_); go_big_quiet_op; with_reducible refine hK _ ?_; clear hK K)
  (refine plan_q 11 rfl (by kernel_rfl) (by kernel_rfl) (by kernel_rfl) rfl rfl (fun _ _ _ _ h => h) hSk (by decide) (by kernel_rfl) (fun K hK => ?_); go_big_quiet_op; with_reducible refine hK _ ?_; clear hK K)
  (refine plan_q 12 rfl (by kernel_rfl) (by kernel_rfl) (by kernel_rfl) rfl rfl (fun _ _ _ _ h => h) hSk (by decide) (by kernel_rfl) (fun K hK => ?_); go_big_quiet_op; with_reducible refine hK _ ?_; clear hK K)
  (refine plan_q 13 rfl (by kernel_rfl) (by kernel_rfl) (by kernel_rfl) rfl rfl (fun _ _ _ _ h => h) hSk (by decide) (by kernel_rfl) (fun K hK => ?_); go_big_quiet_op; with_reducible refine hK _ ?_; clear hK K)
  (refine plan_q 14 rfl (by kernel_rfl) (by kernel_rfl) (by kernel_rfl) rfl rfl (fun _ _ _ _ h => h) hSk (by decide) (by kernel_rfl) (fun K hK => ?_); go_big_quiet_op; with_reducible refine hK _ ?_; clear hK K)
  (refine plan_q 15 rfl (by kernel_rfl) (by kernel_rfl) (by kernel_rfl) rfl rfl (fun _ _ _ _ h => h) hSk (by decide) (by kernel_rfl) (fun K hK => ?_); go_big_quiet_op; with_reducible refine hK _ ?_; clear hK K)
  (refine plan_q 16 rfl (by kernel_rfl) (by kernel_rfl) (by kernel_rfl) rfl rfl (fun _ _ _ _ h => h) hSk (by decide) (by kernel_rfl) (fun K hK => ?_); go_big_quiet_op; with_reducible refine hK _ ?_; clear hK K)
  (refine plan_q 17 rfl (by kernel_rfl) (by kernel_rfl) (by kernel_rfl) rfl rfl (fun _ _ _ _ h => h) hSk (by decide) (by kernel_rfl) (fun K hK => ?_); go_big_quiet_op; with_reducible refine hK _ ?_; clear hK K)
  refine plan_e (by kernel_rfl) ?_
  clear hSk
  go_wp2
  refine plan_begin (fun _ => False) 8 9 rfl (by kernel_rfl) (fun hSk => ?_)
  (refine plan_q 0 rfl (by kernel_rfl) (by kernel_rfl) (by kernel_rfl) rfl rfl (fun _ _ _ _ h => h) hSk (by decide) (by kernel_rfl) (fun K hK => ?_); go_big_quiet_op; with_reducible refine hK _ ?_; clear hK K)
  (refine plan_q 1 rfl (by kernel_rfl) (by kernel_rfl) (by kernel_rfl) rfl rfl (fun _ _ _ _ h => h) hSk (by decide) (by kernel_rfl) (fun K hK => ?_); go_big_quiet_op; with_reducible refine hK _ ?_; clear hK K)
  (refine plan_q 2 rfl (by kernel_rfl) (by kernel_rfl) (by kernel_rfl) rfl rfl (fun _ _ _ _ h => h) hSk (by decide) (by kernel_rfl) (fun K hK => ?_); go_big_quiet_op; with_reducible refine hK _ ?_; clear hK K)
  (refine plan_q 3 rfl (by kernel_rfl) (by kernel_rfl) (by kernel_rfl) rfl rfl (fun _ _ _ _ h => h) hSk (by decide) (by kernel_rfl) (fun K hK => ?_); go_big_quiet_op; with_reducible refine hK _ ?_; clear hK K)
  (refine plan_q 4 rfl (by kernel_rfl) (by kernel_rfl) (by kernel_rfl) rfl rfl (fun _ _ _ _ h => h) hSk (by decide) (by kernel_rfl) (fun K hK => ?_); go_big_quiet_op; with_reducible refine hK _ ?_; clear hK K)
  (refine plan_q 5 rfl (by kernel_rfl) (by kernel_rfl) (by kernel_rfl) rfl rfl (fun _ _ _ _ h => h) hSk (by decide) (by kernel_rfl) (fun K hK => ?_); go_big_quiet_op; with_reducible refine hK _ ?_; clear hK K)
  (refine plan_q 6 rfl (by kernel_rfl) (by kernel_rfl) (by kernel_rfl) rfl rfl (fun _ _ _ _ h => h) hSk (by decide) (by kernel_rfl) (fun K hK => ?_); go_big_quiet_op; with_reducible refine hK _ ?_; clear hK K)
  (refine plan_q 7 rfl (by kernel_rfl) (by kernel_rfl) (by kernel_rfl) rfl rfl (fun _ _ _ _ h => h) hSk (by decide) (by kernel_rfl) (fun K hK => ?_); go_big_quiet_op; with_reducible refine hK _ ?_; clear hK K)
  (refine plan_l 8 rfl (by kernel_rfl) (fun K hK => ?_); go_wp2_with (fail); (try simp only [Exit.then]); (try simp only [Act.put, List.setIfInBounds_toArray, List.set_cons_succ, List.set_cons_zero]); refine hK _ _ (fun hz0 => by exact absurd rfl hz0) (fun hSk1 => ?_); clear hK K hSk)
  refine plan_e (by kernel_rfl) ?_
  clear hSk1
  go_wp2
  go_returns
  exact ⟨rfl, by ((repeat (first | (with_reducible refine heap_drew1 ?_) | (with_reducible refine heap_lt_alloc ?_))); exact heap_near hbf (FrB_put ha _)), by (repeat (first | with_reducible exact Keep.refl _ _ | (with_reducible refine Keep.left ?_) | (with_reducible refine Keep.leftN ?_) | (with_reducible assumption) | (with_reducible refine Keep.setCell ?_ ?hs _; case hs => (first | (exact .inl rfl) | (simp; done) | (right; omega) | (right; simp; omega))) | (with_reducible refine Keep.allocs ?_ (by simp; done) _) | (with_reducible refine Keep.alloc ?_ _) | (with_reducible refine Keep.drew ?_) | (with_reducible refine Keep.drewN ?_ _) | refine Keep.thenBelow ?_ (by assumption) | refine Keep.grown ?_ (by assumption) (by intro k hk; (first | (cases hk; done) | (exfalso; simp [Value.ownBlock] at hk; done) | (simp [Value.ownBlock] at hk; subst hk; (first | (right; simp; omega) | (left; first | rfl | simp)))) ) | refine Keep.trans ?_ (by assumption) | (with_reducible refine Keep.allocs ?_ (by simp; done) _) | refine Keep.alloc ?_ _ | refine Keep.drew ?_ | refine Keep.drewN ?_ _ | refine Keep.setCell ?_ (by first | (exact .inl rfl) | (simp; done) | (right; omega) | (right; simp; omega)) _))⟩
set_option maxHeartbeats 800000 in
theorem reckon80_any (a b c : Nat) (k : Int) (ha : a < 8) (hb : b < 8) (hc : c < 8) (hn : ¬ f.R b = f.R c) :
    Calls Try.prog 74 #[.agg #[P, .int .i64 bd, .int .i64 dp, .pointer (some ⟨bf, 0, none⟩)], .agg #[.int .i64 8, .int .i64 a, .int .i64 b, .int .i64 c, .int .i64 k]] w fun e w' =>
      e = .returned (effV 1 0 0 0 0 0 nilV nilV) ∧ w'.heap[bf]? = some (.cells (FrB pv { f with R := upd f.R a (0) }) 80 (0, 0)) ∧ Keep (fun x => x = bf) w w' := by
  obtain ⟨cFn, cAt, cSt, cKi, cPa, cR, cH, zF, hlt⟩ := fr_cells hbf
  have l1 : bf < w.heap.size + 1 := by omega
  have l2 : bf < w.heap.size + 1 + 1 := by omega
  have l3 : bf < w.heap.size + 1 + 1 + 1 := by omega
  have ca := cR a ha
  have za := zF (5 + a)
  have a0 : (0 : Int) ≤ (a : Int) := by omega
  have a1 : (a : Int) < 8 := by omega
  have cb := cR b hb
  have zb := zF (5 + b)
  have b0 : (0 : Int) ≤ (b : Int) := by omega
  have b1 : (b : Int) < 8 := by omega
  have cc := cR c hc
  have zc := zF (5 + c)
  have c0 : (0 : Int) ≤ (c : Int) := by omega
  have c1 : (c : Int) < 8 := by omega
  clear cR zF cFn cAt cSt cKi cPa cH
  have he : (f.R b == f.R c) = false := by simpa using hn
  clear hn
  go_enter Try.func74, Try.ntmps74
  go_wp2_with fail
  refine plan_begin (fun _ => False) 18 18 rfl (by kernel_rfl) (fun hSk => ?_)
  (refine plan_q 0 rfl (by kernel_rfl) (by kernel_rfl) (by kernel_rfl) rfl rfl (fun _ _ _ _ h => h) hSk (by decide) (by kernel_rfl) (fun K hK => ?_); go_big_quiet_op; with_reducible refine hK _ ?_; clear hK K)
  (refine plan_q 1 rfl (by kernel_rfl) (by kernel_rfl) (by kernel_rfl) rfl rfl (fun _ _ _ _ h => h) hSk (by decide) (by kernel_rfl) (fun K hK => ?_); go_big_quiet_op; with_reducible refine hK _ ?_; clear hK K)
  (refine plan_q 2 rfl (by kernel_rfl) (by kernel_rfl) (by kernel_rfl) rfl rfl (fun _ _ _ _ h => h) hSk (by decide) (by kernel_rfl) (fun K hK => ?_); go_big_quiet_op; with_reducible refine hK _ ?_; clear hK K)
  (refine plan_q 3 rfl (by kernel_rfl) (by kernel_rfl) (by kernel_rfl) rfl rfl (fun _ _ _ _ h => h) hSk (by decide) (by kernel_rfl) (fun K hK => ?_); go_big_quiet_op; with_reducible refine hK _ ?_; clear hK K)
  (refine plan_q 4 rfl (by kernel_rfl) (by kernel_rfl) (by kernel_rfl) rfl rfl (fun _ _ _ _ h => h) hSk (by decide) (by kernel_rfl) (fun K hK => ?_); go_big_quiet_op; with_reducible refine hK _ ?_; clear hK K)
  (refine plan_q 5 rfl (by kernel_rfl) (by kernel_rfl) (by kernel_rfl) rfl rfl (fun _ _ _ _ h => h) hSk (by decide) (by kernel_rfl) (fun K hK => ?_); go_big_quiet_op; with_reducible refine hK _ ?_; clear hK K)
  (refine plan_q 6 rfl (by kernel_rfl) (by kernel_rfl) (by kernel_rfl) rfl rfl (fun _ _ _ _ h => h) hSk (by decide) (by kernel_rfl) (fun K hK => ?_); go_big_quiet_op; with_reducible refine hK _ ?_; clear hK K)
  (refine plan_q 7 rfl (by kernel_rfl) (by kernel_rfl) (by kernel_rfl) rfl rfl (fun _ _ _ _ h => h) hSk (by decide) (by kernel_rfl) (fun K hK => ?_); go_big_quiet_op; with_reducible refine hK _ ?_; clear hK K)
  (refine plan_q 8 rfl (by kernel_rfl) (by kernel_rfl) (by kernel_rfl) rfl rfl (fun _ _ _ _ h => h) hSk (by decide) (by kernel_rfl) (fun K hK => ?_); go_big_quiet_op; with_reducible refine hK _ ?_; clear hK K)
  (refine plan_q 9 rfl (by kernel_rfl) (by kernel_rfl) (by kernel_rfl) rfl rfl (fun _ _ _ _ h => h) hSk (by decide) (by kernel_rfl) (fun K hK => ?_); go_big_quiet_op; with_reducible refine hK _ ?_; clear hK K)
  (refine plan_q 10 rfl (by kernel_rfl) (by kernel_rfl) (by kernel_rfl) rfl rfl (fun _ _ _ _ h => h) hSk (by decide) (by kernel_rfl) (fun K hK => ?_); go_big_quiet_op; with_reducible refine hK _ ?_; clear hK K)
  (refine plan_q 11 rfl (by kernel_rfl) (by kernel_rfl) (by kernel_rfl) rfl rfl (fun _ _ _ _ h => h) hSk (by decide) (by kernel_rfl) (fun K hK => ?_); go_big_quiet_op; with_reducible refine hK _ ?_; clear hK K)
  (refine plan_q 12 rfl (by kernel_rfl) (by kernel_rfl) (by kernel_rfl) rfl rfl (fun _ _ _ _ h => h) hSk (by decide) (by kernel_rfl) (fun K hK => ?_); go_big_quiet_op; with_reducible refine hK _ ?_; clear hK K)
  (refine plan_q 13 rfl (by kernel_rfl) (by kernel_rfl) (by kernel_rfl) rfl rfl (fun _ _ _ _ h => h) hSk (by decide) (by kernel_rfl) (fun K hK => ?_); go_big_quiet_op; with_reducible refine hK _ ?_; clear hK K)
  (refine plan_q 14 rfl (by kernel_rfl) (by kernel_rfl) (by kernel_rfl) rfl rfl (fun _ _ _ _ h => h) hSk (by decide) (by kernel_rfl) (fun K hK => ?_); go_big_quiet_op; with_reducible refine hK _ ?_; clear hK K)
  (refine plan_q 15 rfl (by kernel_rfl) (by kernel_rfl) (by kernel_rfl) rfl rfl (fun _ _ _ _ h => h) hSk (by decide) (by kernel_rfl) (fun K hK => ?_); go_big_quiet_op; with_reducible refine hK _ ?_; clear hK K)
  (refine plan_q 16 rfl (by kernel_rfl) (by kernel_rfl) (by kernel_rfl) rfl rfl (fun _ _ _ _ h => h) hSk (by decide) (by kernel_rfl) (fun K hK => ?_); go_big_quiet_op; with_reducible refine hK _ ?_; clear hK K)
  (refine plan_q 17 rfl (by kernel_rfl) (by kernel_rfl) (by kernel_rfl) rfl rfl (fun _ _ _ _ h => h) hSk (by decide) (by kernel_rfl) (fun K hK => ?_); go_big_quiet_op; with_reducible refine hK _ ?_; clear hK K)
  refine plan_e (by kernel_rfl) ?_
  clear hSk
  go_wp2
  refine plan_begin (fun _ => False) 8 9 rfl (by kernel_rfl) (fun hSk => ?_)
  (refine plan_q 0 rfl (by kernel_rfl) (by kernel_rfl) (by kernel_rfl) rfl rfl (fun _ _ _ _ h => h) hSk (by decide) (by kernel_rfl) (fun K hK => ?_); go_big_quiet_op; with_reducible refine hK _ ?_; clear hK K)
  (refine plan_q 1 rfl (by kernel_rfl) (by kernel_rfl) (by kernel_rfl) rfl rfl (fun _ _ _ _ h => h) hSk (by decide) (by kernel_rfl) (fun K hK => ?_); go_big_quiet_op; with_reducible refine hK _ ?_; clear hK K)
  (refine plan_q 2 rfl (by kernel_rfl) (by kernel_rfl) (by kernel_rfl) rfl rfl (fun _ _ _ _ h => h) hSk (by decide) (by kernel_rfl) (fun K hK => ?_); go_big_quiet_op; with_reducible refine hK _ ?_; clear hK K)
  (refine plan_q 3 rfl (by kernel_rfl) (by kernel_rfl) (by kernel_rfl) rfl rfl (fun _ _ _ _ h => h) hSk (by decide) (by kernel_rfl) (fun K hK => ?_); go_big_quiet_op; with_reducible refine hK _ ?_; clear hK K)
  (refine plan_q 4 rfl (by kernel_rfl) (by kernel_rfl) (by kernel_rfl) rfl rfl (fun _ _ _ _ h => h) hSk (by decide) (by kernel_rfl) (fun K hK => ?_); go_big_quiet_op; with_reducible refine hK _ ?_; clear hK K)
  (refine plan_q 5 rfl (by kernel_rfl) (by kernel_rfl) (by kernel_rfl) rfl rfl (fun _ _ _ _ h => h) hSk (by decide) (by kernel_rfl) (fun K hK => ?_); go_big_quiet_op; with_reducible refine hK _ ?_; clear hK K)
  (refine plan_q 6 rfl (by kernel_rfl) (by kernel_rfl) (by kernel_rfl) rfl rfl (fun _ _ _ _ h => h) hSk (by decide) (by kernel_rfl) (fun K hK => ?_); go_big_quiet_op; with_reducible refine hK _ ?_; clear hK K)
  (refine plan_q 7 rfl (by kernel_rfl) (by kernel_rfl) (by kernel_rfl) rfl rfl (fun _ _ _ _ h => h) hSk (by decide) (by kernel_rfl) (fun K hK => ?_); go_big_quiet_op; with_reducible refine hK _ ?_; clear hK K)
  (refine plan_l 8 rfl (by kernel_rfl) (fun K hK => ?_); go_wp2_with (fail); (try simp only [Exit.then]); (try simp only [Act.put, List.setIfInBounds_toArray, List.set_cons_succ, List.set_cons_zero]); refine hK _ _ (fun hz0 => by exact absurd rfl hz0) (fun hSk1 => ?_); clear hK K hSk)
  refine plan_e (by kernel_rfl) ?_
  clear hSk1
  go_wp2
  go_returns
  exact ⟨rfl, by ((repeat (first | (with_reducible refine heap_drew1 ?_) | (with_reducible refine heap_lt_alloc ?_))); exact heap_near hbf (FrB_put ha _)), by (repeat (first | with_reducible exact Keep.refl _ _ | (with_reducible refine Keep.left ?_) | (with_reducible refine Keep.leftN ?_) | (with_reducible assumption) | (with_reducible refine Keep.setCell ?_ ?hs _; case hs => (first | (exact .inl rfl) | (simp; done) | (right; omega) | (right; simp; omega))) | (with_reducible refine Keep.allocs ?_ (by simp; done) _) | (with_reducible refine Keep.alloc ?_ _) | (with_reducible refine Keep.drew ?_) | (with_reducible refine Keep.drewN ?_ _) | refine Keep.thenBelow ?_ (by assumption) | refine Keep.grown ?_ (by assumption) (by intro k hk; (first | (cases hk; done) | (exfalso; simp [Value.ownBlock] at hk; done) | (simp [Value.ownBlock] at hk; subst hk; (first | (right; simp; omega) | (left; first | rfl | simp)))) ) | refine Keep.trans ?_ (by assumption) | (with_reducible refine Keep.allocs ?_ (by simp; done) _) | refine Keep.alloc ?_ _ | refine Keep.drew ?_ | refine Keep.drewN ?_ _ | refine Keep.setCell ?_ (by first | (exact .inl rfl) | (simp; done) | (right; omega) | (right; simp; omega)) _))⟩
end
end Go.Proofs.Ytimmglnbjgbbjaa
