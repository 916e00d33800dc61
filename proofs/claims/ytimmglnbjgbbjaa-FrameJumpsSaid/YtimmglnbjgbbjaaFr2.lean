/- What reckon of package frame does to a frame's block, operation by operation. No conditions. -/
import Derived.Test.YtimmglnbjgbbjaaFr1
set_option linter.unusedSimpArgs false
set_option linter.unusedVariables false
namespace Go.Proofs.Ytimmglnbjgbbjaa
open Go.RowKit Go.Proofs.YtimmglnbjgbbjaaW.PrintWords
section
variable (P : Value) (bd dp : Int) (bf : Nat) (pv : Value) (f : Fr) (w : World) (hbf : w.heap[bf]? = some (.cells (FrB pv f) 80 (0, 0)))
include hbf
set_option maxHeartbeats 800000 in
theorem reckon3_any (a b c : Nat) (k : Int) (ha : a < 8) (hb : b < 8) (hc : c < 8) :
    Calls Try.prog 74 #[.agg #[P, .int .i64 bd, .int .i64 dp, .pointer (some ⟨bf, 0, none⟩)], .agg #[.int .i64 3, .int .i64 a, .int .i64 b, .int .i64 c, .int .i64 k]] w fun e w' =>
      e = .returned (effV 1 0 0 0 0 0 nilV nilV) ∧ w'.heap[bf]? = some (.cells (FrB pv { f with R := upd f.R a (wrap64 (f.R b + f.R c)) }) 80 (0, 0)) ∧ Keep (fun x => x = bf) w w' := by
  obtain ⟨cFn, cAt, cSt, cKi, cPa, cR, cH, zF, hlt⟩ := fr_cells hbf
  have l1 : bf < w.heap.size + 1 := by omega
  have l2 : bf < w.heap.size + 1 + 1 := by omega
  have l3 : bf < w.heap.size + 1 + 1 + 1 := by omega
  have ca := cR a ha
  have za := zF (5 + a)
  have a0 : (0 : Int) ≤ (a : Int) := by omega
  have a1 : (a : Int) < 8 := by omega
  have cb := cR b hb
  have zb := zF (5 + b)
  have b0 : (0 : Int) ≤ (b : Int) := by omega
  have b1 : (b : Int) < 8 := by omega
  have cc := cR c hc
  have zc := zF (5 + c)
  have c0 : (0 : Int) ≤ (c : Int) := by omega
  have c1 : (c : Int) < 8 := by omega
  clear cR zF cFn cAt cSt cKi cPa cH
  go_enter Try.func74, Try.ntmps74
  go_wp2_with fail
  refine plan_begin (fun _ => False) 18 18 rfl (by kernel_rfl) (fun hSk => ?_)
  (refine plan_q 0 rfl (by kernel_rfl) (by kernel_rfl) (by kernel_rfl) rfl rfl (fun _ _ _ _ h => h) hSk (by decide) (by kernel_rfl) (fun K hK => ?_); go_big_quiet_op; with_reducible refine hK _ ?_; clear hK K)
  (refine plan_q 1 rfl (by kernel_rfl) (by kernel_rfl) (by kernel_rfl) rfl rfl (fun _ _ _ _ h => h) hSk (by decide) (by kernel_rfl) (fun K hK => ?_); go_big_quiet_op; with_reducible refine hK _ ?_; clear hK K)
  (refine plan_q 2 rfl (by kernel_rfl) (by kernel_rfl) (by kernel_rfl) rfl rfl (fun _ _ _ _ h => h) hSk (by decide) (by kernel_rfl) (fun K hK => ?_); go_big_quiet_op; with_reducible refine hK _ ?_; clear hK K)
  (refine plan_q 3 rfl (by kernel_rfl) (by kernel_rfl) (by kernel_rfl) rfl rfl (fun _ _ _ _ h => h) hSk (by decide) (by kernel_rfl) (fun K hK => ?_); go_big_quiet_op; with_reducible refine hK _ ?_; clear hK K)
  (refine plan_q 4 rfl (by kernel_rfl) (by kernel_rfl) (by kernel_rfl) rfl rfl (fun _ _ _ _ h => h) hSk (by decide) (by kernel_rfl) (fun K hK => ?_); go_big_quiet_op; with_reducible refine hK _ ?_; clear hK K)
  (refine plan_q 5 rfl (by kernel_rfl) (by kernel_rfl) (by kernel_rfl) rfl rfl (fun _ _ _ _ h => h) hSk (by decide) (by kernel_rfl) (fun K hK => ?_); go_big_quiet_op; with_reducible refine hK _ ?_; clear hK K)
  (refine plan_q 6 rfl (by kernel_rfl) (by kernel_rfl) (by kernel_rfl) rfl rfl (fun _ _ _ _ h => h) hSk (by decide) (by kernel_rfl) (fun K hK => ?_); go_big_quiet_op; with_reducible refine hK _ ?_; clear hK K)
  (refine plan_q 7 rfl (by kernel_rfl) (by kernel_rfl) (by kernel_rfl) rfl rfl (fun _ _ _ _ h => h) hSk (by decide) (by kernel_rfl) (fun K hK => ?_); go_big_quiet_op; with_reducible refine hK _ ?_; clear hK K)
  (refine plan_q 8 rfl (by kernel_rfl) (by kernel_rfl) (by kernel_rfl) rfl rfl (fun _ _ _ _ h => h) hSk (by decide) (by kernel_rfl) (fun K hK => ?_); go_big_quiet_op; with_reducible refine hK _ ?_; clear hK K)
  (refine plan_q 9 rfl (by kernel_rfl) (by kernel_rfl) (by kernel_rfl) rfl rfl (fun _ _ _ _ h => h) hSk (by decide) (by kernel_rfl) (fun K hK => ?_); go_big_quiet_op; with_reducible refine hK _ ?_; clear hK K)
  (refine plan_q 10 rfl (by kernel_rfl) (by kernel_rfl) (by kernel_rfl) rfl rfl (fun _ _ _ _ h => h) hSk (by decide) (by kernel_rfl) (fun K hK => ?_); go_big_quiet_op; with_reducible refine hK _ ?_; clear hK K)
  (refine plan_q 11 rfl (by kernel_rfl) (by kernel_rfl) (by kernel_rfl) rfl rfl (fun _ _ _ _ h => h) hSk (by decide) (by kernel_rfl) (fun K hK => ?_); go_big_quiet_op; with_reducible refine hK _ ?_; clear hK K)
  (refine plan_q 12 rfl (by kernel_rfl) (by kernel_rfl) (by kernel_rfl) rfl rfl (fun _ _ _ _ h => h) hSk (by decide) (by kernel_rfl) (fun K hK => ?_); go_big_quiet_op; with_reducible refine hK _ ?_; clear hK K)
  (refine plan_q 13 rfl (by kernel_rfl) (by kernel_rfl) (by kernel_rfl) rfl rfl (fun _ _ _ _ h => h) hSk (by decide) (by kernel_rfl) (fun K hK => ?_); go_big_quiet_op; with_reducible refine hK _ ?_; clear hK K)
  (refine plan_q 14 rfl (by kernel_rfl) (by kernel_rfl) (by kernel_rfl) rfl rfl (fun _ _ _ _ h => h) hSk (by decide) (by kernel_rfl) (fun K hK => ?_); go_big_quiet_op; with_reducible refine hK _ ?_; clear hK K)
  (refine plan_q 15 rfl (by kernel_rfl) (by kernel_rfl) (by kernel_rfl) rfl rfl (fun _ _ _ _ h => h) hSk (by decide) (by kernel_rfl) (fun K hK => ?_); go_big_quiet_op; with_reducible refine hK _ ?_; clear hK K)
  (refine plan_q 16 rfl (by kernel_rfl) (by kernel_rfl) (by kernel_rfl) rfl rfl (fun _ _ _ _ h => h) hSk (by decide) (by kernel_rfl) (fun K hK => ?_); go_big_quiet_op; with_reducible refine hK _ ?_; clear hK K)
  (refine plan_q 17 rfl (by kernel_rfl) (by kernel_rfl) (by kernel_rfl) rfl rfl (fun _ _ _ _ h => h) hSk (by decide) (by kernel_rfl) (fun K hK => ?_); go_big_quiet_op; with_reducible refine hK _ ?_; clear hK K)
  refine plan_e (by kernel_rfl) ?_
  clear hSk
  go_wp2
  refine plan_begin (fun _ => False) 8 9 rfl (by kernel_rfl) (fun hSk => ?_)
  (refine plan_q 0 rfl (by kernel_rfl) (by kernel_rfl) (by kernel_rfl) rfl rfl (fun _ _ _ _ h => h) hSk (by decide) (by kernel_rfl) (fun K hK => ?_); go_big_quiet_op; with_reducible refine hK _ ?_; clear hK K)
  (refine plan_q 1 rfl (by kernel_rfl) (by kernel_rfl) (by kernel_rfl) rfl rfl (fun _ _ _ _ h => h) hSk (by decide) (by kernel_rfl) (fun K hK => ?_); go_big_quiet_op; with_reducible refine hK _ ?_; clear hK K)
  (refine plan_q 2 rfl (by kernel_rfl) (by kernel_rfl) (by kernel_rfl) rfl rfl (fun _ _ _ _ h => h) hSk (by decide) (by kernel_rfl) (fun K hK => ?_); go_big_quiet_op; with_reducible refine hK _ ?_; clear hK K)
  (refine plan_q 3 rfl (by kernel_rfl) (by kernel_rfl) (by kernel_rfl) rfl rfl (fun _ _ _ _ h => h) hSk (by decide) (by kernel_rfl) (fun K hK => ?_); go_big_quiet_op; with_reducible refine hK _ ?_; clear hK K)
  (refine plan_q 4 rfl (by kernel_rfl) (by kernel_rfl) (by kernel_rfl) rfl rfl (fun _ _ _ _ h => h) hSk (by decide) (by kernel_rfl) (fun K hK => ?_); go_big_quiet_op; with_reducible refine hK _ ?_; clear hK K)
  (refine plan_q 5 rfl (by kernel_rfl) (by kernel_rfl) (by kernel_rfl) rfl rfl (fun _ _ _ _ h => h) hSk (by decide) (by kernel_rfl) (fun K hK => ?_); go_big_quiet_op; with_reducible refine hK _ ?_; clear hK K)
  (refine plan_q 6 rfl (by kernel_rfl) (by kernel_rfl) (by kernel_rfl) rfl rfl (fun _ _ _ _ h => h) hSk (by decide) (by kernel_rfl) (fun K hK => ?_); go_big_quiet_op; with_reducible refine hK _ ?_; clear hK K)
  (refine plan_q 7 rfl (by kernel_rfl) (by kernel_rfl) (by kernel_rfl) rfl rfl (fun _ _ _ _ h => h) hSk (by decide) (by kernel_rfl) (fun K hK => ?_); go_big_quiet_op; with_reducible refine hK _ ?_; clear hK K)
  (refine plan_l 8 rfl (by kernel_rfl) (fun K hK => ?_); go_wp2_with (fail); (try simp only [Exit.then]); (try simp only [Act.put, List.setIfInBounds_toArray, List.set_cons_succ, List.set_cons_zero]); refine hK _ _ (fun hz0 => by exact absurd rfl hz0) (fun hSk1 => ?_); clear hK K hSk)
  refine plan_e (by kernel_rfl) ?_
  clear hSk1
  go_wp2
  go_returns
  exact ⟨rfl, by ((repeat (first | (with_reducible refine heap_drew1 ?_) | (with_reducible refine heap_lt_alloc ?_))); exact heap_near hbf (FrB_put ha _)), by (repeat (first | with_reducible exact Keep.refl _ _ | (with_reducible refine Keep.left ?_) | (with_reducible refine Keep.leftN ?_) | (with_reducible assumption) | (with_reducible refine Keep.setCell ?_ ?hs _; case hs => (first | (exact .inl rfl) | (simp; done) | (right; omega) | (right; simp; omega))) | (with_reducible refine Keep.allocs ?_ (by simp; done) _) | (with_reducible refine Keep.alloc ?_ _) | (with_reducible refine Keep.drew ?_) | (with_reducible refine Keep.drewN ?_ _) | refine Keep.thenBelow ?_ (by assumption) | refine Keep.grown ?_ (by assumption) (by intro k hk; (first | (cases hk; done) | (exfalso; simp [Value.ownBlock] at hk; done) | (simp [Value.ownBlock] at hk; subst hk; (first | (right; simp; omega) | (left; first | rfl | simp)))) ) | refine Keep.trans ?_ (by assumption) | (with_reducible refine Keep.allocs ?_ (by simp; done) _) | refine Keep.alloc ?_ _ | refine Keep.drew ?_ | refine Keep.drewN ?_ _ | refine Keep.setCell ?_ (by first | (exact .inl rfl) | (simp; done) | (right; omega) | (right; simp; omega)) _))⟩
set_option maxHeartbeats 800000 in
theorem reckon4_any (a b c : Nat) (k : Int) (ha : a < 8) (hb : b < 8) (hc : c < 8) :
    Calls Try.prog 74 #[.agg #[P, .int .i64 bd, .int .i64 dp, .pointer (some ⟨bf, 0, none⟩)], .agg #[.int .i64 4, .int .i64 a, .int .i64 b, .int .i64 c, .int .i64 k]] w fun e w' =>
      e = .returned (effV 1 0 0 0 0 0 nilV nilV) ∧ w'.heap[bf]? = some (.cells (FrB pv { f with R := upd f.R a (wrap64 (f.R b - f.R c)) }) 80 (0, 0)) ∧ Keep (fun x => x = bf) w w' := by
  obtain ⟨cFn, cAt, cSt, cKi, cPa, cR, cH, zF, hlt⟩ := fr_cells hbf
  have l1 : bf < w.heap.size + 1 := by omega
  have l2 : bf < w.heap.size + 1 + 1 := by omega
  have l3 : bf < w.heap.size + 1 + 1 + 1 := by omega
  have ca := cR a ha
  have za := zF (5 + a)
  have a0 : (0 : Int) ≤ (a : Int) := by omega
  have a1 : (a : Int) < 8 := by omega
  have cb := cR b hb
  have zb := zF (5 + b)
  have b0 : (0 : Int) ≤ (b : Int) := by omega
  have b1 : (b : Int) < 8 := by omega
  have cc := cR c hc
  have zc := zF (5 + c)
  have c0 : (0 : Int) ≤ (c : Int) := by omega
  have c1 : (c : Int) < 8 := by omega
  clear cR zF cFn cAt cSt cKi cPa cH
  go_enter Try.func74, Try.ntmps74
  go_wp2_with fail
  refine plan_begin (fun _ => False) 18 18 rfl (by kernel_rfl) (fun hSk => ?_)
  (refine plan_q 0 rfl (by kernel_rfl) (by kernel_rfl) (by kernel_rfl) rfl rfl (fun _ _ _ _ h => h) hSk (by decide) (by kernel_rfl) (fun K hK => ?_); go_big_quiet_op; with_reducible refine hK _ ?_; clear hK K)
  (refine plan_q 1 rfl (by kernel_rfl) (by kernel_rfl) (by kernel_rfl) rfl rfl (fun _ _ _ _ h => h) hSk (by decide) (by kernel_rfl) (fun K hK => ?_); go_big_quiet_op; with_reducible refine hK _ ?_; clear hK K)
  (refine plan_q 2 rfl (by kernel_rfl) (by kernel_rfl) (by kernel_rfl) rfl rfl (fun _ _ _ _ h => h) hSk (by decide) (by kernel_rfl) (fun K hK => ?_); go_big_quiet_op; with_reducible refine hK _ ?_; clear hK K)
  (refine plan_q 3 rfl (by kernel_rfl) (by kernel_rfl) (by kernel_rfl) rfl rfl (fun _ _ _ _ h => h) hSk (by decide) (by kernel_rfl) (fun K hK => ?_); go_big_quiet_op; with_reducible refine hK _ ?_; clear hK K)
  (refine plan_q 4 rfl (by kernel_rfl) (by kernel_rfl) (by kernel_rfl) rfl rfl (fun _ _ _ _ h => h) hSk (by decide) (by kernel_rfl) (fun K hK => ?_); go_big_quiet_op; with_reducible refine hK _ ?_; clear hK K)
  (refine plan_q 5 rfl (by kernel_rfl) (by kernel_rfl) (by kernel_rfl) rfl rfl (fun _ _ _ _ h => h) hSk (by decide) (by kernel_rfl) (fun K hK => ?_); go_big_quiet_op; with_reducible refine hK _ ?_; clear hK K)
  (refine plan_q 6 rfl (by kernel_rfl) (by kernel_rfl) (by kernel_rfl) rfl rfl (fun _ _ _ _ h => h) hSk (by decide) (by kernel_rfl) (fun K hK => ?_); go_big_quiet_op; with_reducible refine hK _ ?_; clear hK K)
  (refine plan_q 7 rfl (by kernel_rfl) (by kernel_rfl) (by kernel_rfl) rfl rfl (fun _ _ _ _ h => h) hSk (by decide) (by kernel_rfl) (fun K hK => ?_); go_big_quiet_op; with_reducible refine hK _ ?_; clear hK K)
  (refine plan_q 8 rfl (by kernel_rfl) (by kernel_rfl) (by kernel_rfl) rfl rfl (fun _ _ _ _ h => h) hSk (by decide) (by kernel_rfl) (fun K hK => ?_); go_big_quiet_op; with_reducible refine hK _ ?_; clear hK K)
  (refine plan_q 9 rfl (by kernel_rfl) (by kernel_rfl) (by kernel_rfl) rfl rfl (fun _ _ _ _ h => h) hSk (by decide) (by kernel_rfl) (fun K hK => ?_); go_big_quiet_op; with_reducible refine hK _ ?_; clear hK K)
  (refine plan_q 10 rfl (by kernel_rfl) (by kernel_rfl) (by kernel_rfl) rfl rfl (fun _ _ _ _ h => h) hSk (by decide) (by kernel_rfl) (fun K hK => ?_); go_big_quiet_op; with_reducible refine hK _ ?_; clear hK K)
  (refine plan_q 11 rfl (by kernel_rfl) (by kernel_rfl) (by kernel_rfl) rfl rfl (fun _ _ _ _ h => h) hSk (by decide) (by kernel_rfl) (fun K hK => ?_); go_big_quiet_op; with_reducible refine hK _ ?_; clear hK K)
  (refine plan_q 12 rfl (by kernel_rfl) (by kernel_rfl) (by kernel_rfl) rfl rfl (fun _ _ _ _ h => h) hSk (by decide) (by kernel_rfl) (fun K hK => ?_); go_big_quiet_op; with_reducible refine hK _ ?_; clear hK K)
  (refine plan_q 13 rfl (by kernel_rfl) (by kernel_rfl) (by kernel_rfl) rfl rfl (fun _ _ _ _ h => h) hSk (by decide) (by kernel_rfl) (fun K hK => ?_); go_big_quiet_op; with_reducible refine hK _ ?_; clear hK K)
  (refine plan_q 14 rfl (by kernel_rfl) (by kernel_rfl) (by kernel_rfl) rfl rfl (fun _ _ _ _ h => h) hSk (by decide) (by kernel_rfl) (fun K hK => ?_); go_big_quiet_op; with_reducible refine hK _ ?_; clear hK K)
  (refine plan_q 15 rfl (by kernel_rfl) (by kernel_rfl) (by kernel_rfl) rfl rfl (fun _ _ _ _ h => h) hSk (by decide) (by kernel_rfl) (fun K hK => ?_); go_big_quiet_op; with_reducible refine hK _ ?_; clear hK K)
  (refine plan_q 16 rfl (by kernel_rfl) (by kernel_rfl) (by kernel_rfl) rfl rfl (fun _ _ _ _ h => h) hSk (by decide) (by kernel_rfl) (fun K hK => ?_); go_big_quiet_op; with_reducible refine hK _ ?_; clear hK K)
  (refine plan_q 17 rfl (by kernel_rfl) (by kernel_rfl) (by kernel_rfl) rfl rfl (fun _ _ _ _ h => h) hSk (by decide) (by kernel_rfl) (fun K hK => ?_); go_big_quiet_op; with_reducible refine hK _ ?_; clear hK K)
  refine plan_e (by kernel_rfl) ?_
  clear hSk
  go_wp2
  refine plan_begin (fun _ => False) 8 9 rfl (by kernel_rfl) (fun hSk => ?_)
  (refine plan_q 0 rfl (by kernel_rfl) (by kernel_rfl) (by kernel_rfl) rfl rfl (fun _ _ _ _ h => h) hSk (by decide) (by kernel_rfl) (fun K hK => ?_); go_big_quiet_op; with_reducible refine hK _ ?_; clear hK K)
  (refine plan_q 1 rfl (by kernel_rfl) (by kernel_rfl) (by kernel_rfl) rfl rfl (fun _ _ _ _ h => h) hSk (by decide) (by kernel_rfl) (fun K hK => ?_); go_big_quiet_op; with_reducible refine hK _ ?_; clear hK K)
  (refine plan_q 2 rfl (by kernel_rfl) (by kernel_rfl) (by kernel_rfl) rfl rfl (fun _ _ _ _ h => h) hSk (by decide) (by kernel_rfl) (fun K hK => ?_); go_big_quiet_op; with_reducible refine hK _ ?_; clear hK K)
  (refine plan_q 3 rfl (by kernel_rfl) (by kernel_rfl) (by kernel_rfl) rfl rfl (fun _ _ _ _ h => h) hSk (by decide) (by kernel_rfl) (fun K hK => ?_); go_big_quiet_op; with_reducible refine hK _ ?_; clear hK K)
  (refine plan_q 4 rfl (by kernel_rfl) (by kernel_rfl) (by kernel_rfl) rfl rfl (fun _ _ _ _ h => h) hSk (by decide) (by kernel_rfl) (fun K hK => ?_); go_big_quiet_op; with_reducible refine hK _ ?_; clear hK K)
  (refine plan_q 5 rfl (by kernel_rfl) (by kernel_rfl) (by kernel_rfl) rfl rfl (fun _ _ _ _ h => h) hSk (by decide) (by kernel_rfl) (fun K hK => ?_); go_big_quiet_op; with_reducible refine hK _ ?_; clear hK K)
  (refine plan_q 6 rfl (by kernel_rfl) (by kernel_rfl) (by kernel_rfl) rfl rfl (fun _ _ _ _ h => h) hSk (by decide) (by kernel_rfl) (fun K hK => ?_); go_big_quiet_op; with_reducible refine hK _ ?_; clear hK K)
  (refine plan_q 7 rfl (by kernel_rfl) (by kernel_rfl) (by kernel_rfl) rfl rfl (fun _ _ _ _ h => h) hSk (by decide) (by kernel_rfl) (fun K hK => ?_); go_big_quiet_op; with_reducible refine hK _ ?_; clear hK K)
  (refine plan_l 8 rfl (by kernel_rfl) (fun K hK => ?_); go_wp2_with (fail); (try simp only [Exit.then]); (try simp only [Act.put, List.setIfInBounds_toArray, List.set_cons_succ, List.set_cons_zero]); refine hK _ _ (fun hz0 => by exact absurd rfl hz0) (fun hSk1 => ?_); clear hK K hSk)
  refine plan_e (by kernel_rfl) ?_
  clear hSk1
  go_wp2
  go_returns
  exact ⟨rfl, by ((repeat (first | (with_reducible refine heap_drew1 ?_) | (with_reducible refine heap_lt_alloc ?_))); exact heap_near hbf (FrB_put ha _)), by (repeat (first | with_reducible exact Keep.refl _ _ | (with_reducible refine Keep.left ?_) | (with_reducible refine Keep.leftN ?_) | (with_reducible assumption) | (with_reducible refine Keep.setCell ?_ ?hs _; case hs => (first | (exact .inl rfl) | (simp; done) | (right; omega) | (right; simp; omega))) | (with_reducible refine Keep.allocs ?_ (by simp; done) _) | (with_reducible refine Keep.alloc ?_ _) | (with_reducible refine Keep.drew ?_) | (with_reducible refine Keep.drewN ?_ _) | refine Keep.thenBelow ?_ (by assumption) | refine Keep.grown ?_ (by assumption) (by intro k hk; (first | (cases hk; done) | (exfalso; simp [Value.ownBlock] at hk; done) | (simp [Value.ownBlock] at hk; subst hk; (first | (right; simp; omega) | (left; first | rfl | simp)))) ) | refine Keep.trans ?_ (by assumption) | (with_reducible refine Keep.allocs ?_ (by simp; done) _) | refine Keep.alloc ?_ _ | refine Keep.drew ?_ | refine Keep.drewN ?_ _ | refine Keep.setCell ?_ (by first | (exact .inl rfl) | (simp; done) | (right; omega) | (right; simp; omega)) _))⟩
set_option maxHeartbeats 800000 in
theorem reckon5_any (a b c : Nat) (k : Int) (ha : a < 8) (hb : b < 8) (hc : c < 8) :
    Calls Try.prog 74 #[.agg #[P, .int .i64 bd, .int .i64 dp, .pointer (some ⟨bf, 0, none⟩)], .agg #[.int .i64 5, .int .i64 a, .int .i64 b, .int .i64 c, .int .i64 k]] w fun e w' =>
      e = .returned (effV 1 0 0 0 0 0 nilV nilV) ∧ w'.heap[bf]? = some (.cells (FrB pv { f with R := upd f.R a (wrap64 (f.R b * f.R c)) }) 80 (0, 0)) ∧ Keep (fun x => x = bf) w w' := by
  obtain ⟨cFn, cAt, cSt, cKi, cPa, cR, cH, zF, hlt⟩ := fr_cells hbf
  have l1 : bf < w.heap.size + 1 := by omega
  have l2 : bf < w.heap.size + 1 + 1 := by omega
  have l3 : bf < w.heap.size + 1 + 1 + 1 := by omega
  have ca := cR a ha
  have za := zF (5 + a)
  have a0 : (0 : Int) ≤ (a : Int) := by omega
  have a1 : (a : Int) < 8 := by omega
  have cb := cR b hb
  have zb := zF (5 + b)
  have b0 : (0 : Int) ≤ (b : Int) := by omega
  have b1 : (b : Int) < 8 := by omega
  have cc := cR c hc
  have zc := zF (5 + c)
  have c0 : (0 : Int) ≤ (c : Int) := by omega
  have c1 : (c : Int) < 8 := by omega
  clear cR zF cFn cAt cSt cKi cPa cH
  go_enter Try.func74, Try.ntmps74
  go_wp2_with fail
  refine plan_begin (fun _ => False) 18 18 rfl (by kernel_rfl) (fun hSk => ?_)
  (refine plan_q 0 rfl (by kernel_rfl) (by kernel_rfl) (by kernel_rfl) rfl rfl (fun _ _ _ _ h => h) hSk (by decide) (by kernel_rfl) (fun K hK => ?_); go_big_quiet_op; with_reducible refine hK _ ?_; clear hK K)
  (refine plan_q 1 rfl (by kernel_rfl) (by kernel_rfl) (by kernel_rfl) rfl rfl (fun _ _ _ _ h => h) hSk (by decide) (by kernel_rfl) (fun K hK => ?_); go_big_quiet_op; with_reducible refine hK _ ?_; clear hK K)
  (refine plan_q 2 rfl (by kernel_rfl) (by kernel_rfl) (by kernel_rfl) rfl rfl (fun _ _ _ _ h => h) hSk (by decide) (by kernel_rfl) (fun K hK => ?_); go_big_quiet_op; with_reducible refine hK _ ?_; clear hK K)
  (refine plan_q 3 rfl (by kernel_rfl) (by kernel_rfl) (by kernel_rfl) rfl rfl (fun _ _ _ _ h => h) hSk (by decide) (by kernel_rfl) (fun K hK => ?_); go_big_quiet_op; with_reducible refine hK _ ?_; clear hK K)
  (refine plan_q 4 rfl (by kernel_rfl) (by kernel_rfl) (by kernel_rfl) rfl rfl (fun _ _ _ _ h => h) hSk (by decide) (by kernel_rfl) (fun K hK => ?_); go_big_quiet_op; with_reducible refine hK _ ?_; clear hK K)
  (refine plan_q 5 rfl (by kernel_rfl) (by kernel_rfl) (by kernel_rfl) rfl rfl (fun _ _ _ _ h => h) hSk (by decide) (by kernel_rfl) (fun K hK => ?_); go_big_quiet_op; with_reducible refine hK _ ?_; clear hK K)
  (refine plan_q 6 rfl (by kernel_rfl) (by kernel_rfl) (by kernel_rfl) rfl rfl (fun _ _ _ _ h => h) hSk (by decide) (by kernel_rfl) (fun K hK => ?_); go_big_quiet_op; with_reducible refine hK _ ?_; clear hK K)
  (refine plan_q 7 rfl (by kernel_rfl) (by kernel_rfl) (by kernel_rfl) rfl rfl (fun _ _ _ _ h => h) hSk (by decide) (by kernel_rfl) (fun K hK => ?_); go_big_quiet_op; with_reducible refine hK _ ?_; clear hK K)
  (refine plan_q 8 rfl (by kernel_rfl) (by kernel_rfl) (by kernel_rfl) rfl rfl (fun _ _ _ _ h => h) hSk (by decide) (by kernel_rfl) (fun K hK => ?_); go_big_quiet_op; with_reducible refine hK _ ?_; clear hK K)
  (refine plan_q 9 rfl (by kernel_rfl) (by kernel_rfl) (by kernel_rfl) rfl rfl (fun _ _ _ _ h => h) hSk (by decide) (by kernel_rfl) (fun K hK => ?_); go_big_quiet_op; with_reducible refine hK _ ?_; clear hK K)
  (refine plan_q 10 rfl (by kernel_rfl) (by kernel_rfl) (by kernel_rfl) rfl rfl (fun _ _ _ _ h => h) hSk (by decide) (by kernel_rfl) (fun K hK => ?_); go_big_quiet_op; with_reducible refine hK _ ?_; clear hK K)
  (refine plan_q 11 rfl (by kernel_rfl) (by kernel_rfl) (by kernel_rfl) rfl rfl (fun _ _ _ _ h => h) hSk (by decide) (by kernel_rfl) (fun K hK => ?_); go_big_quiet_op; with_reducible refine hK _ ?_; clear hK K)
  (refine plan_q 12 rfl (by kernel_rfl) (by kernel_rfl) (by kernel_rfl) rfl rfl (fun _ _ _ _ h => h) hSk (by decide) (by kernel_rfl) (fun K hK => ?_); go_big_quiet_op; with_reducible refine hK _ ?_; clear hK K)
  (refine plan_q 13 rfl (by kernel_rfl) (by kernel_rfl) (by kernel_rfl) rfl rfl (fun _ _ _ _ h => h) hSk (by decide) (by kernel_rfl) (fun K hK => ?_); go_big_quiet_op; with_reducible refine hK _ ?_; clear hK K)
  (refine plan_q 14 rfl (by kernel_rfl) (by kernel_rfl) (by kernel_rfl) rfl rfl (fun _ _ _ _ h => h) hSk (by decide) (by kernel_rfl) (fun K hK => ?_); go_big_quiet_op; with_reducible refine hK _ ?_; clear hK K)
  (refine plan_q 15 rfl (by kernel_rfl) (by kernel_rfl) (by kernel_rfl) rfl rfl (fun _ _ _ _ h => h) hSk (by decide) (by kernel_rfl) (fun K hK => ?_); go_big_quiet_op; with_reducible refine hK _ ?_; clear hK K)
  (refine plan_q 16 rfl (by kernel_rfl) (by kernel_rfl) (by kernel_rfl) rfl rfl (fun _ _ _ _ h => h) hSk (by decide) (by kernel_rfl) (fun K hK => ?_); go_big_quiet_op; with_reducible refine hK _ ?_; clear hK K)
  (refine plan_q 17 rfl (by kernel_rfl) (by kernel_rfl) (by kernel_rfl) rfl rfl (fun _ _ _ _ h => h) hSk (by decide) (by kernel_rfl) (fun K hK => ?_); go_big_quiet_op; with_reducible refine hK _ ?_; clear hK K)
  refine plan_e (by kernel_rfl) ?_
  clear hSk
  go_wp2
  refine plan_begin (fun _ => False) 8 9 rfl (by kernel_rfl) (fun hSk => ?_)
  (refine plan_q 0 rfl (by kernel_rfl) (by kernel_rfl) (by kernel_rfl) rfl rfl (fun _ _ _ _ h => h) hSk (by decide) (by kernel_rfl) (fun K hK => ?_); go_big_quiet_op; with_reducible refine hK _ ?_; clear hK K)
  (refine plan_q 1 rfl (by kernel_rfl) (by kernel_rfl) (by kernel_rfl) rfl rfl (fun _ _ _ _ h => h) hSk (by decide) (by kernel_rfl) (fun K hK => ?_); go_big_quiet_op; with_reducible refine hK _ ?_; clear hK K)
  (refine plan_q 2 rfl (by kernel_rfl) (by kernel_rfl) (by kernel_rfl) rfl rfl (fun _ _ _ _ h => h) hSk (by decide) (by kernel_rfl) (fun K hK => ?_); go_big_quiet_op; with_reducible refine hK _ ?_; clear hK K)
  (refine plan_q 3 rfl (by kernel_rfl) (by kernel_rfl) (by kernel_rfl) rfl rfl (fun _ _ _ _ h => h) hSk (by decide) (by kernel_rfl) (fun K hK => ?_); go_big_quiet_op; with_reducible refine hK _ ?_; clear hK K)
  (refine plan_q 4 rfl (by kernel_rfl) (by kernel_rfl) (by kernel_rfl) rfl rfl (fun _ _ _ _ h => h) hSk (by decide) (by kernel_rfl) (fun K hK => ?_); go_big_quiet_op; with_reducible refine hK _ ?_; clear hK K)
  (refine plan_q 5 rfl (by kernel_rfl) (by kernel_rfl) (by kernel_rfl) rfl rfl (fun _ _ _ _ h => h) hSk (by decide) (by kernel_rfl) (fun K hK => ?_); go_big_quiet_op; with_reducible refine hK _ ?_; clear hK K)
  (refine plan_q 6 rfl (by kernel_rfl) (by kernel_rfl) (by kernel_rfl) rfl rfl (fun _ _ _ _ h => h) hSk (by decide) (by kernel_rfl) (fun K hK => ?_); go_big_quiet_op; with_reducible refine hK _ ?_; clear hK K)
  (refine plan_q 7 rfl (by kernel_rfl) (by kernel_rfl) (by kernel_rfl) rfl rfl (fun _ _ _ _ h => h) hSk (by decide) (by kernel_rfl) (fun K hK => ?_); go_big_quiet_op; with_reducible refine hK _ ?_; clear hK K)
  (refine plan_l 8 rfl (by kernel_rfl) (fun K hK => ?_); go_wp2_with (fail); (try simp only [Exit.then]); (try simp only [Act.put, List.setIfInBounds_toArray, List.set_cons_succ, List.set_cons_zero]); refine hK _ _ (fun hz0 => by exact absurd rfl hz0) (fun hSk1 => ?_); clear hK K hSk)
  refine plan_e (by kernel_rfl) ?_
  clear hSk1
  go_wp2
  go_returns
  exact ⟨rfl, by ((repeat (first | (with_reducible refine heap_drew1 ?_) | (with_reducible refine heap_lt_alloc ?_))); exact heap_near hbf (FrB_put ha _)), by (repeat (first | with_reducible exact Keep.refl _ _ | (with_reducible refine Keep.left ?_) | (with_reducible refine Keep.leftN ?_) | (with_reducible assumption) | (with_reducible refine Keep.setCell ?_ ?hs _; case hs => (first | (exact .inl rfl) | (simp; done) | (right; omega) | (right; simp; omega))) | (with_reducible refine Keep.allocs ?_ (by simp; done) _) | (with_reducible refine Keep.alloc ?_ _) | (with_reducible refine Keep.drew ?_) | (with_reducible refine Keep.drewN ?_ _) | refine Keep.thenBelow ?_ (by assumption) | refine Keep.grown ?_ (by assumption) (by intro k hk; (first | (cases hk; done) | (exfalso; simp [Value.ownBlock] at hk; done) | (simp [Value.ownBlock] at hk; subst hk; (first | (right; simp; omega) | (left; first | rfl | simp)))) ) | refine Keep.trans ?_ (by assumption) | (with_reducible refine Keep.allocs ?_ (by simp; done) _) | refine Keep.alloc ?_ _ | refine Keep.drew ?_ | refine Keep.drewN ?_ _ | refine Keep.setCell ?_ (by first | (exact .inl rfl) | (simp; done) | (right; omega) | (right; simp; omega)) _))⟩
set_option maxHeartbeats 800000 in
theorem reckon6_any (a b c : Nat) (k : Int) (ha : a < 8) (hb : b < 8) (hc : c < 8) (hn : ¬ f.R c = 0) :
    Calls Try.prog 74 #[.agg #[P, .int .i64 bd, .int .i64 dp, .pointer (some ⟨bf, 0, none⟩)], .agg #[.int .i64 6, .int .i64 a, .int .i64 b, .int .i64 c, .int .i64 k]] w fun e w' =>
      e = .returned (effV 1 0 0 0 0 0 nilV nilV) ∧ w'.heap[bf]? = some (.cells (FrB pv { f with R := upd f.R a (wrap64 ((f.R b).tdiv (f.R c))) }) 80 (0, 0)) ∧ Keep (fun x => x = bf) w w' := by
  obtain ⟨cFn, cAt, cSt, cKi, cPa, cR, cH, zF, hlt⟩ := fr_cells hbf
  have l1 : bf < w.heap.size + 1 := by omega
  have l2 : bf < w.heap.size + 1 + 1 := by omega
  have l3 : bf < w.heap.size + 1 + 1 + 1 := by omega
  have ca := cR a ha
  have za := zF (5 + a)
  have a0 : (0 : Int) ≤ (a : Int) := by omega
  have a1 : (a : Int) < 8 := by omega
  have cb := cR b hb
  have zb := zF (5 + b)
  have b0 : (0 : Int) ≤ (b : Int) := by omega
  have b1 : (b : Int) < 8 := by omega
  have cc := cR c hc
  have zc := zF (5 + c)
  have c0 : (0 : Int) ≤ (c : Int) := by omega
  have c1 : (c : Int) < 8 := by omega
  clear cR zF cFn cAt cSt cKi cPa cH
  have he : (f.R c == 0) = false := by simpa using hn
  go_enter Try.func74, Try.ntmps74
  go_wp2_with fail
  refine plan_begin (fun _ => False) 18 18 rfl (by kernel_rfl) (fun hSk => ?_)
  (refine plan_q 0 rfl (by kernel_rfl) (by kernel_rfl) (by kernel_rfl) rfl rfl (fun _ _ _ _ h => h) hSk (by decide) (by kernel_rfl) (fun K hK => ?_); go_big_quiet_op; with_reducible refine hK _ ?_; clear hK K)
  (refine plan_q 1 rfl (by kernel_rfl) (by kernel_rfl) (by kernel_rfl) rfl rfl (fun _ _ _ _ h => h) hSk (by decide) (by kernel_rfl) (fun K hK => ?_); go_big_quiet_op; with_reducible refine hK _ ?_; clear hK K)
  (refine plan_q 2 rfl (by kernel_rfl) (by kernel_rfl) (by kernel_rfl) rfl rfl (fun _ _ _ _ h => h) hSk (by decide) (by kernel_rfl) (fun K hK => ?_); go_big_quiet_op; with_reducible refine hK _ ?_; clear hK K)
  (refine plan_q 3 rfl (by kernel_rfl) (by kernel_rfl) (by kernel_rfl) rfl rfl (fun _ _ _ _ h => h) hSk (by decide) (by kernel_rfl) (fun K hK => ?_); go_big_quiet_op; with_reducible refine hK _ ?_; clear hK K)
  (refine plan_q 4 rfl (by kernel_rfl) (by kernel_rfl) (by kernel_rfl) rfl rfl (fun _ _ _ _ h => h) hSk (by decide) (by kernel_rfl) (fun K hK => ?_); go_big_quiet_op; with_reducible refine hK _ ?_; clear hK K)
  (refine plan_q 5 rfl (by kernel_rfl) (by kernel_rfl) (by kernel_rfl) rfl rfl (fun _ _ _ _ h => h) hSk (by decide) (by kernel_rfl) (fun K hK => ?_); go_big_quiet_op; with_reducible refine hK _ ?_; clear hK K)
  (refine plan_q 6 rfl (by kernel_rfl) (by kernel_rfl) (by kernel_rfl) rfl rfl (fun _ _ _ _ h => h) hSk (by decide) (by kernel_rfl) (fun K hK => ?_); go_big_quiet_op; with_reducible refine hK _ ?_; clear hK K)
  (refine plan_q 7 rfl (by kernel_rfl) (by kernel_rfl) (by kernel_rfl) rfl rfl (fun _ _ _ _ h => h) hSk (by decide) (by kernel_rfl) (fun K hK => ?_); go_big_quiet_op; with_reducible refine hK _ ?_; clear hK K)
  (refine plan_q 8 rfl (by kernel_rfl) (by kernel_rfl) (by kernel_rfl) rfl rfl (fun _ _ _ _ h => h) hSk (by decide) (by kernel_rfl) (fun K hK => ?_); go_big_quiet_op; with_reducible refine hK _ ?_; clear hK K)
  (refine plan_q 9 rfl (by kernel_rfl) (by kernel_rfl) (by kernel_rfl) rfl rfl (fun _ _ _ _ h => h) hSk (by decide) (by kernel_rfl) (fun K hK => ?_); go_big_quiet_op; with_reducible refine hK _ ?_; clear hK K)
  (refine plan_q 10 rfl (by kernel_rfl) (by kernel_rfl) (by kernel_rfl) rfl rfl (fun _ _ _ _ h => h) hSk (by decide) (by kernel_rfl) (fun K hK => ?_); go_big_quiet_op; with_reducible refine hK _ ?_; clear hK K)
  (refine plan_q 11 rfl (by kernel_rfl) (by kernel_rfl) (by kernel_rfl) rfl rfl (fun _ _ _ _ h => h) hSk (by decide) (by kernel_rfl) (fun K hK => ?_); go_big_quiet_op; with_reducible refine hK _ ?_; clear hK K)
  (refine plan_q 12 rfl (by kernel_rfl) (by kernel_rfl) (by kernel_rfl) rfl rfl (fun _ _ _ _ h => h) hSk (by decide) (by kernel_rfl) (fun K hK => ?_); go_big_quiet_op; with_reducible refine hK _ ?_; clear hK K)
  (refine plan_q 13 rfl (by kernel_rfl) (by kernel_rfl) (by kernel_rfl) rfl rfl (fun _ _ _ _ h => h) hSk (by decide) (by kernel_rfl) (fun K hK => ?_); go_big_quiet_op; with_reducible refine hK _ ?_; clear hK K)
  (refine plan_q 14 rfl (by kernel_rfl) (by kernel_rfl) (by kernel_rfl) rfl rfl (fun _ _ _ _ h => h) hSk (by decide) (by kernel_rfl) (fun K hK => ?_); go_big_quiet_op; with_reducible refine hK _ ?_; clear hK K)
  (refine plan_q 15 rfl (by kernel_rfl) (by kernel_rfl) (by kernel_rfl) rfl rfl (fun _ _ _ _ h => h) hSk (by decide) (by kernel_rfl) (fun K hK => ?_); go_big_quiet_op; with_reducible refine hK _ ?_; clear hK K)
  (refine plan_q 16 rfl (by kernel_rfl) (by kernel_rfl) (by kernel_rfl) rfl rfl (fun _ _ _ _ h => h) hSk (by decide) (by kernel_rfl) (fun K hK => ?_); go_big_quiet_op; with_reducible refine hK _ ?_; clear hK K)
  (refine plan_q 17 rfl (by kernel_rfl) (by kernel_rfl) (by kernel_rfl) rfl rfl (fun _ _ _ _ h => h) hSk (by decide) (by kernel_rfl) (fun K hK => ?_); go_big_quiet_op; with_reducible refine hK _ ?_; clear hK K)
  refine plan_e (by kernel_rfl) ?_
  clear hSk
  go_wp2
  refine plan_begin (fun _ => False) 8 9 rfl (by kernel_rfl) (fun hSk => ?_)
  (refine plan_q 0 rfl (by kernel_rfl) (by kernel_rfl) (by kernel_rfl) rfl rfl (fun _ _ _ _ h => h) hSk (by decide) (by kernel_rfl) (fun K hK => ?_); go_big_quiet_op; with_reducible refine hK _ ?_; clear hK K)
  (refine plan_q 1 rfl (by kernel_rfl) (by kernel_rfl) (by kernel_rfl) rfl rfl (fun _ _ _ _ h => h) hSk (by decide) (by kernel_rfl) (fun K hK => ?_); go_big_quiet_op; with_reducible refine hK _ ?_; clear hK K)
  (refine plan_q 2 rfl (by kernel_rfl) (by kernel_rfl) (by kernel_rfl) rfl rfl (fun _ _ _ _ h => h) hSk (by decide) (by kernel_rfl) (fun K hK => ?_); go_big_quiet_op; with_reducible refine hK _ ?_; clear hK K)
  (refine plan_q 3 rfl (by kernel_rfl) (by kernel_rfl) (by kernel_rfl) rfl rfl (fun _ _ _ _ h => h) hSk (by decide) (by kernel_rfl) (fun K hK => ?_); go_big_quiet_op; with_reducible refine hK _ ?_; clear hK K)
  (refine plan_q 4 rfl (by kernel_rfl) (by kernel_rfl) (by kernel_rfl) rfl rfl (fun _ _ _ _ h => h) hSk (by decide) (by kernel_rfl) (fun K hK => ?_); go_big_quiet_op; with_reducible refine hK _ ?_; clear hK K)
  (refine plan_q 5 rfl (by kernel_rfl) (by kernel_rfl) (by kernel_rfl) rfl rfl (fun _ _ _ _ h => h) hSk (by decide) (by kernel_rfl) (fun K hK => ?_); go_big_quiet_op; with_reducible refine hK _ ?_; clear hK K)
  (refine plan_q 6 rfl (by kernel_rfl) (by kernel_rfl) (by kernel_rfl) rfl rfl (fun _ _ _ _ h => h) hSk (by decide) (by kernel_rfl) (fun K hK => ?_); go_big_quiet_op; with_reducible refine hK _ ?_; clear hK K)
  (refine plan_q 7 rfl (by kernel_rfl) (by kernel_rfl) (by kernel_rfl) rfl rfl (fun _ _ _ _ h => h) hSk (by decide) (by kernel_rfl) (fun K hK => ?_); go_big_quiet_op; with_reducible refine hK _ ?_; clear hK K)
  (refine plan_l 8 rfl (by kernel_rfl) (fun K hK => ?_); go_wp2_with (fail); (try simp only [Exit.then]); (try simp only [Act.put, List.setIfInBounds_toArray, List.set_cons_succ, List.set_cons_zero]); refine hK _ _ (fun hz0 => by exact absurd rfl hz0) (fun hSk1 => ?_); clear hK K hSk)
  refine plan_e (by kernel_rfl) ?_
  clear hSk1
  go_wp2
  go_returns
  exact ⟨rfl, by ((repeat (first | (with_reducible refine heap_drew1 ?_) | (with_reducible refine heap_lt_alloc ?_))); exact heap_near hbf (FrB_put ha _)), by (repeat (first | with_reducible exact Keep.refl _ _ | (with_reducible refine Keep.left ?_) | (with_reducible refine Keep.leftN ?_) | (with_reducible assumption) | (with_reducible refine Keep.setCell ?_ ?hs _; case hs => (first | (exact .inl rfl) | (simp; done) | (right; omega) | (right; simp; omega))) | (with_reducible refine Keep.allocs ?_ (by simp; done) _) | (with_reducible refine Keep.alloc ?_ _) | (with_reducible refine Keep.drew ?_) | (with_reducible refine Keep.drewN ?_ _) | refine Keep.thenBelow ?_ (by assumption) | refine Keep.grown ?_ (by assumption) (by intro k hk; (first | (cases hk; done) | (exfalso; simp [Value.ownBlock] at hk; done) | (simp [Value.ownBlock] at hk; subst hk; (first | (right; simp; omega) | (left; first | rfl | simp)))) ) | refine Keep.trans ?_ (by assumption) | (with_reducible refine Keep.allocs ?_ (by simp; done) _) | refine Keep.alloc ?_ _ | refine Keep.drew ?_ | refine Keep.drewN ?_ _ | refine Keep.setCell ?_ (by first | (exact .inl rfl) | (simp; done) | (right; omega) | (right; simp; omega)) _))⟩
set_option maxHeartbeats 800000 in
theorem reckon60_any (a b c : Nat) (k : Int) (ha : a < 8) (hb : b < 8) (hc : c < 8) (hn : f.R c = 0) :
    Calls Try.prog 74 #[.agg #[P, .int .i64 bd, .int .i64 dp, .pointer (some ⟨bf, 0, none⟩)], .agg #[.int .i64 6, .int .i64 a, .int .i64 b, .int .i64 c, .int .i64 k]] w fun e w' =>
      e = .returned (effV 8 0 0 0 0 1 nilV nilV) ∧ w'.heap[bf]? = some (.cells (FrB pv f) 80 (0, 0)) ∧ Keep (fun x => x = bf) w w' := by
  obtain ⟨cFn, cAt, cSt, cKi, cPa, cR, cH, zF, hlt⟩ := fr_cells hbf
  have l1 : bf < w.heap.size + 1 := by omega
  have l2 : bf < w.heap.size + 1 + 1 := by omega
  have l3 : bf < w.heap.size + 1 + 1 + 1 := by omega
  have ca := cR a ha
  have za := zF (5 + a)
  have a0 : (0 : Int) ≤ (a : Int) := by omega
  have a1 : (a : Int) < 8 := by omega
  have cb := cR b hb
  have zb := zF (5 + b)
  have b0 : (0 : Int) ≤ (b : Int) := by omega
  have b1 : (b : Int) < 8 := by omega
  have cc := cR c hc
  have zc := zF (5 + c)
  have c0 : (0 : Int) ≤ (c : Int) := by omega
  have c1 : (c : Int) < 8 := by omega
  clear cR zF cFn cAt cSt cKi cPa cH
  have he : (f.R c == 0) = true := by simpa using hn
  clear hn
  go_enter Try.func74, Try.ntmps74
  go_wp2_with fail
  refine plan_begin (fun _ => False) 18 18 rfl (by kernel_rfl) (fun hSk => ?_)
  (refine plan_q 0 rfl (by kernel_rfl) (by kernel_rfl) (by kernel_rfl) rfl rfl (fun _ _ _ _ h => h) hSk (by decide) (by kernel_rfl) (fun K hK => ?_); go_big_quiet_op; with_reducible refine hK _ ?_; clear hK K)
  (refine plan_q 1 rfl (by kernel_rfl) (by kernel_rfl) (by kernel_rfl) rfl rfl (fun _ _ _ _ h => h) hSk (by decide) (by kernel_rfl) (fun K hK => ?_); go_big_quiet_op; with_reducible refine hK _ ?_; clear hK K)
  (refine plan_q 2 rfl (by kernel_rfl) (by kernel_rfl) (by kernel_rfl) rfl rfl (fun _ _ _ _ h => h) hSk (by decide) (by kernel_rfl) (fun K hK => ?_); go_big_quiet_op; with_reducible refine hK _ ?_; clear hK K)
  (refine plan_q 3 rfl (by kernel_rfl) (by kernel_rfl) (by kernel_rfl) rfl rfl (fun _ _ _ _ h => h) hSk (by decide) (by kernel_rfl) (fun K hK => ?_); go_big_quiet_op; with_reducible refine hK _ ?_; clear hK K)
  (refine plan_q 4 rfl (by kernel_rfl) (by kernel_rfl) (by kernel_rfl) rfl rfl (fun _ _ _ _ h => h) hSk (by decide) (by kernel_rfl) (fun K hK => ?_); go_big_quiet_op; with_reducible refine hK _ ?_; clear hK K)
  (refine plan_q 5 rfl (by kernel_rfl) (by kernel_rfl) (by kernel_rfl) rfl rfl (fun _ _ _ _ h => h) hSk (by decide) (by kernel_rfl) (fun K hK => ?_); go_big_quiet_op; with_reducible refine hK _ ?_; clear hK K)
  (refine plan_q 6 rfl (by kernel_rfl) (by kernel_rfl) (by kernel_rfl) rfl rfl (fun _ _ _ _ h => h) hSk (by decide) (by kernel_rfl) (fun K hK => ?_); go_big_quiet_op; with_reducible refine hK _ ?_; clear hK K)
  (refine plan_q 7 rfl (by kernel_rfl) (by kernel_rfl) (by kernel_rfl) rfl rfl (fun _ _ _ _ h => h) hSk (by decide) (by kernel_rfl) (fun K hK => ?_); go_big_quiet_op; with_reducible refine hK _ ?_; clear hK K)
  (refine plan_q 8 rfl (by kernel_rfl) (by kernel_rfl) (by kernel_rfl) rfl rfl (fun _ _ _ _ h => h) hSk (by decide) (by kernel_rfl) (fun K hK => ?_); go_big_quiet_op; with_reducible refine hK _ ?_; clear hK K)
  (refine plan_q 9 rfl (by kernel_rfl) (by kernel_rfl) (by kernel_rfl) rfl rfl (fun _ _ _ _ h => h) hSk (by decide) (by kernel_rfl) (fun K hK => ?_); go_big_quiet_op; with_reducible refine hK _ ?_; clear hK K)
  (refine plan_q 10 rfl (by kernel_rfl) (by kernel_rfl) (by kernel_rfl) rfl rfl (fun _ _ _ _ h => h) hSk (by decide) (by kernel_rfl) (fun K hK => ?_); go_big_quiet_op; with_reducible refine hK _ ?_; clear hK K)
  (refine plan_q 11 rfl (by kernel_rfl) (by kernel_rfl) (by kernel_rfl) rfl rfl (fun _ _ _ _ h => h) hSk (by decide) (by kernel_rfl) (fun K hK => ?_); go_big_quiet_op; with_reducible refine hK _ ?_; clear hK K)
  (refine plan_q 12 rfl (by kernel_rfl) (by kernel_rfl) (by kernel_rfl) rfl rfl (fun _ _ _ _ h => h) hSk (by decide) (by kernel_rfl) (fun K hK => ?_); go_big_quiet_op; with_reducible refine hK _ ?_; clear hK K)
  (refine plan_q 13 rfl (by kernel_rfl) (by kernel_rfl) (by kernel_rfl) rfl rfl (fun _ _ _ _ h => h) hSk (by decide) (by kernel_rfl) (fun K hK => ?_); go_big_quiet_op; with_reducible refine hK _ ?_; clear hK K)
  (refine plan_q 14 rfl (by kernel_rfl) (by kernel_rfl) (by kernel_rfl) rfl rfl (fun _ _ _ _ h => h) hSk (by decide) (by kernel_rfl) (fun K hK => ?_); go_big_quiet_op; with_reducible refine hK _ ?_; clear hK K)
  (refine plan_q 15 rfl (by kernel_rfl) (by kernel_rfl) (by kernel_rfl) rfl rfl (fun _ _ _ _ h => h) hSk (by decide) (by kernel_rfl) (fun K hK => ?_); go_big_quiet_op; with_reducible refine hK _ ?_; clear hK K)
  (refine plan_q 16 rfl (by kernel_rfl) (by kernel_rfl) (by kernel_rfl) rfl rfl (fun _ _ _ _ h => h) hSk (by decide) (by kernel_rfl) (fun K hK => ?_); go_big_quiet_op; with_reducible refine hK _ ?_; clear hK K)
  (refine plan_q 17 rfl (by kernel_rfl) (by kernel_rfl) (by kernel_rfl) rfl rfl (fun _ _ _ _ h => h) hSk (by decide) (by kernel_rfl) (fun K hK => ?_); go_big_quiet_op; with_reducible refine hK _ ?_; clear hK K)
  refine plan_e (by kernel_rfl) ?_
  clear hSk
  go_wp2
  go_returns
  exact ⟨rfl, by ((repeat (first | (with_reducible refine heap_drew1 ?_) | (with_reducible refine heap_lt_alloc ?_))); exact hbf), by (repeat (first | with_reducible exact Keep.refl _ _ | (with_reducible refine Keep.left ?_) | (with_reducible refine Keep.leftN ?_) | (with_reducible assumption) | (with_reducible refine Keep.setCell ?_ ?hs _; case hs => (first | (exact .inl rfl) | (simp; done) | (right; omega) | (right; simp; omega))) | (with_reducible refine Keep.allocs ?_ (by simp; done) _) | (with_reducible refine Keep.alloc ?_ _) | (with_reducible refine Keep.drew ?_) | (with_reducible refine Keep.drewN ?_ _) | refine Keep.thenBelow ?_ (by assumption) | refine Keep.grown ?_ (by assumption) (by intro k hk; (first | (cases hk; done) | (exfalso; simp [Value.ownBlock] at hk; done) | (simp [Value.ownBlock] at hk; subst hk; (first | (right; simp; omega) | (left; first | rfl | simp)))) ) | refine Keep.trans ?_ (by assumption) | (with_reducible refine Keep.allocs ?_ (by simp; done) _) | refine Keep.alloc ?_ _ | refine Keep.drew ?_ | refine Keep.drewN ?_ _ | refine Keep.setCell ?_ (by first | (exact .inl rfl) | (simp; done) | (right; omega) | (right; simp; omega)) _))⟩
set_option maxHeartbeats 800000 in
theorem reckon71_any (a b c : Nat) (k : Int) (ha : a < 8) (hb : b < 8) (hc : c < 8) (hn : f.R b < f.R c) :
    Calls Try.prog 74 #[.agg #[P, .int .i64 bd, .int .i64 dp, .pointer (some ⟨bf, 0, none⟩)], .agg #[.int .i64 7, .int .i64 a, .int .i64 b, .int .i64 c, .int .i64 k]] w fun e w' =>
      e = .returned (effV 1 0 0 0 0 0 nilV nilV) ∧ w'.heap[bf]? = some (.cells (FrB pv { f with R := upd f.R a (1) }) 80 (0, 0)) ∧ Keep (fun x => x = bf) w w' := by
  obtain ⟨cFn, cAt, cSt, cKi, cPa, cR, cH, zF, hlt⟩ := fr_cells hbf
  have l1 : bf < w.heap.size + 1 := by omega
  have l2 : bf < w.heap.size + 1 + 1 := by omega
  have l3 : bf < w.heap.size + 1 + 1 + 1 := by omega
  have ca := cR a ha
  have za := zF (5 + a)
  have a0 : (0 : Int) ≤ (a : Int) := by omega
  have a1 : (a : Int) < 8 := by omega
  have cb := cR b hb
  have zb := zF (5 + b)
  have b0 : (0 : Int) ≤ (b : Int) := by omega
  have b1 : (b : Int) < 8 := by omega
  have cc := cR c hc
  have zc := zF (5 + c)
  have c0 : (0 : Int) ≤ (c : Int) := by omega
  have c1 : (c : Int) < 8 := by omega
  clear cR zF cFn cAt cSt cKi cPa cH
  have he : decide (f.R b < f.R c) = true := by simpa using hn
  clear hn
  go_enter Try.func74, Try.ntmps74
  go_wp2_with fail
  refine plan_begin (fun _ => False) 18 18 rfl (by kernel_rfl) (fun hSk => ?_)
  (refine plan_q 0 rfl (by kernel_rfl) (by kernel_rfl) (by kernel_rfl) rfl rfl (fun _ _ _ _ h => h) hSk (by decide) (by kernel_rfl) (fun K hK => ?_); go_big_quiet_op; with_reducible refine hK _ ?_; clear hK K)
  (refine plan_q 1 rfl (by kernel_rfl) (by kernel_rfl) (by kernel_rfl) rfl rfl (fun _ _ _ _ h => h) hSk (by decide) (by kernel_rfl) (fun K hK => ?_); go_big_quiet_op; with_reducible refine hK _ ?_; clear hK K)
  (refine plan_q 2 rfl (by kernel_rfl) (by kernel_rfl) (by kernel_rfl) rfl rfl (fun _ _ _ _ h => h) hSk (by decide) (by kernel_rfl) (fun K hK => ?_); go_big_quiet_op; with_reducible refine hK _ ?_; clear hK K)
  (refine plan_q 3 rfl (by kernel_rfl) (by kernel_rfl) (by kernel_rfl) rfl rfl (fun _ _ _ _ h => h) hSk (by decide) (by kernel_rfl) (fun K hK => ?_); go_big_quiet_op; with_reducible refine hK _ ?_; clear hK K)
  (refine plan_q 4 rfl (by kernel_rfl) (by kernel_rfl) (by kernel_rfl) rfl rfl (fun _ _ _ _ h => h) hSk (by decide) (by kernel_rfl) (fun K hK => ?_); go_big_quiet_op; with_reducible refine hK _ ?_; clear hK K)
  (refine plan_q 5 rfl (by kernel_rfl) (by kernel_rfl) (by kernel_rfl) rfl rfl (fun _ _ _ _ h => h) hSk (by decide) (by kernel_rfl) (fun K hK => ?_); go_big_quiet_op; with_reducible refine hK _ ?_; clear hK K)
  (refine plan_q 6 rfl (by kernel_rfl) (by kernel_rfl) (by kernel_rfl) rfl rfl (fun _ _ _ _ h => h) hSk (by decide) (by kernel_rfl) (fun K hK => ?_); go_big_quiet_op; with_reducible refine hK _ ?_; clear hK K)
  (refine plan_q 7 rfl (by kernel_rfl) (by kernel_rfl) (by kernel_rfl) rfl rfl (fun _ _ _ _ h => h) hSk (by decide) (by kernel_rfl) (fun K hK => ?_); go_big_quiet_op; with_reducible refine hK _ ?_; clear hK K)
  (refine plan_q 8 rfl (by kernel_rfl) (by kernel_rfl) (by kernel_rfl) rfl rfl (fun _ _ _ _ h => h) hSk (by decide) (by kernel_rfl) (fun K hK => ?_); go_big_quiet_op; with_reducible refine hK _ ?_; clear hK K)
  (refine plan_q 9 rfl (by kernel_rfl) (by kernel_rfl) (by kernel_rfl) rfl rfl (fun _ _ _ _ h => h) hSk (by decide) (by kernel_rfl) (fun K hK => ?_); go_big_quiet_op; with_reducible refine hK _ ?_; clear hK K)
  (refine plan_q 10 rfl (by kernel_rfl) (by kernel_rfl) (by kernel_rfl) rfl rfl (fun _ _ _ _ h => h) hSk (by decide) (by kernel_rfl) (fun K hK => ?_); go_big_quiet_op; with_reducible refine hK _ ?_; clear hK K)
  (refine plan_q 11 rfl (by kernel_rfl) (by kernel_rfl) (by kernel_rfl) rfl rfl (fun _ _ _ _ h => h) hSk (by decide) (by kernel_rfl) (fun K hK => ?_); go_big_quiet_op; with_reducible refine hK _ ?_; clear hK K)
  (refine plan_q 12 rfl (by kernel_rfl) (by kernel_rfl) (by kernel_rfl) rfl rfl (fun _ _ _ _ h => h) hSk (by decide) (by kernel_rfl) (fun K hK => ?_); go_big_quiet_op; with_reducible refine hK _ ?_; clear hK K)
  (refine plan_q 13 rfl (by kernel_rfl) (by kernel_rfl) (by kernel_rfl) rfl rfl (fun _ _ _ _ h => h) hSk (by decide) (by kernel_rfl) (fun K hK => ?_); go_big_quiet_op; with_reducible refine hK _ ?_; clear hK K)
  (refine plan_q 14 rfl (by kernel_rfl) (by kernel_rfl) (by kernel_rfl) rfl rfl (fun _ _ _ _ h => h) hSk (by decide) (by kernel_rfl) (fun K hK => ?_); go_big_quiet_op; with_reducible refine hK _ ?_; clear hK K)
  (refine plan_q 15 rfl (by kernel_rfl) (by kernel_rfl) (by kernel_rfl) rfl rfl (fun _ _ _ _ h => h) hSk (by decide) (by kernel_rfl) (fun K hK => ?_); go_big_quiet_op; with_reducible refine hK _ ?_; clear hK K)
  (refine plan_q 16 rfl (by kernel_rfl) (by kernel_rfl) (by kernel_rfl) rfl rfl (fun _ _ _ _ h => h) hSk (by decide) (by kernel_rfl) (fun K hK => ?_); go_big_quiet_op; with_reducible refine hK _ ?_; clear hK K)
  (refine plan_q 17 rfl (by kernel_rfl) (by kernel_rfl) (by kernel_rfl) rfl rfl (fun _ _ _ _ h => h) hSk (by decide) (by kernel_rfl) (fun K hK => ?_); go_big_quiet_op; with_reducible refine hK _ ?_; clear hK K)
  refine plan_e (by kernel_rfl) ?_
  clear hSk
  go_wp2
  refine plan_begin (fun _ => False) 8 9 rfl (by kernel_rfl) (fun hSk => ?_)
  (refine plan_q 0 rfl (by kernel_rfl) (by kernel_rfl) (by kernel_rfl) rfl rfl (fun _ _ _ _ h => h) hSk (by decide) (by kernel_rfl) (fun K hK => ?_); go_big_quiet_op; with_reducible refine hK _ ?_; clear hK K)
  (refine plan_q 1 rfl (by kernel_rfl) (by kernel_rfl) (by kernel_rfl) rfl rfl (fun _ _ _ _ h => h) hSk (by decide) (by kernel_rfl) (fun K hK => ?_); go_big_quiet_op; with_reducible refine hK _ ?_; clear hK K)
  (refine plan_q 2 rfl (by kernel_rfl) (by kernel_rfl) (by kernel_rfl) rfl rfl (fun _ _ _ _ h => h) hSk (by decide) (by kernel_rfl) (fun K hK => ?_); go_big_quiet_op; with_reducible refine hK _ ?_; clear hK K)
  (refine plan_q 3 rfl (by kernel_rfl) (by kernel_rfl) (by kernel_rfl) rfl rfl (fun _ _ _ _ h => h) hSk (by decide) (by kernel_rfl) (fun K hK => ?_); go_big_quiet_op; with_reducible refine hK _ ?_; clear hK K)
  (refine plan_q 4 rfl (by kernel_rfl) (by kernel_rfl) (by kernel_rfl) rfl rfl (fun _ _ _ _ h => h) hSk (by decide) (by kernel_rfl) (fun K hK => ?_); go_big_quiet_op; with_reducible refine hK _ ?_; clear hK K)
  (refine plan_q 5 rfl (by kernel_rfl) (by kernel_rfl) (by kernel_rfl) rfl rfl (fun _ _ _ _ h => h) hSk (by decide) (by kernel_rfl) (fun K hK => ?_); go_big_quiet_op; with_reducible refine hK _ ?_; clear hK K)
  (refine plan_q 6 rfl (by kernel_rfl) (by kernel_rfl) (by kernel_rfl) rfl rfl (fun _ _ _ _ h => h) hSk (by decide) (by kernel_rfl) (fun K hK => ?_); go_big_quiet_op; with_reducible refine hK _ ?_; clear hK K)
  (refine plan_q 7 rfl (by kernel_rfl) (by kernel_rfl) (by kernel_rfl) rfl rfl (fun _ _ _ _ h => h) hSk (by decide) (by kernel_rfl) (fun K hK => ?_); go_big_quiet_op; with_reducible refine hK _ ?_; clear hK K)
  (refine plan_l 8 rfl (by kernel_rfl) (fun K hK => ?_); go_wp2_with (fail); (try simp only [Exit.then]); (try simp only [Act.put, List.setIfInBounds_toArray, List.set_cons_succ, List.set_cons_zero]); refine hK _ _ (fun hz0 => by exact absurd rfl hz0) (fun hSk1 => ?_); clear hK K hSk)
  refine plan_e (by kernel_rfl) ?_
  clear hSk1
  go_wp2
  go_returns
  exact ⟨rfl, by ((repeat (first | (with_reducible refine heap_drew1 ?_) | (with_reducible refine heap_lt_alloc ?_))); exact heap_near hbf (FrB_put ha _)), by (repeat (first | with_reducible exact Keep.refl _ _ | (with_reducible refine Keep.left ?_) | (with_reducible refine Keep.leftN ?_) | (with_reducible assumption) | (with_reducible refine Keep.setCell ?_ ?hs _; case hs => (first | (exact .inl rfl) | (simp; done) | (right; omega) | (right; simp; omega))) | (with_reducible refine Keep.allocs ?_ (by simp; done) _) | (with_reducible refine Keep.alloc ?_ _) | (with_reducible refine Keep.drew ?_) | (with_reducible refine Keep.drewN ?_ _) | refine Keep.thenBelow ?_ (by assumption) | refine Keep.grown ?_ (by assumption) (by intro k hk; (first | (cases hk; done) | (exfalso; simp [Value.ownBlock] at hk; done) | (simp [Value.ownBlock] at hk; subst hk; (first | (right; simp; omega) | (left; first | rfl | simp)))) ) | refine Keep.trans ?_ (by assumption) | (with_reducible refine Keep.allocs ?_ (by simp; done) _) | refine Keep.alloc ?_ _ | refine Keep.drew ?_ | refine Keep.drewN ?_ _ | refine Keep.setCell ?_ (by first | (exact .inl rfl) | (simp; done) | (right; omega) | (right; simp; omega)) _))⟩
set_option maxHeartbeats 800000 in
theorem reckon70_any (a b c : Nat) (k : Int) (ha : a < 8) (hb : b < 8) (hc : c < 8) (hn : ¬ f.R b < f.R c) :
    Calls Try.prog 74 #[.agg #[P, .int .i64 bd, .int .i64 dp, .pointer (some ⟨bf, 0, none⟩)], .agg #[.int .i64 7, .int .i64 a, .int .i64 b, .int .i64 c, .int .i64 k]] w fun e w' =>
      e = .returned (effV 1 0 0 0 0 0 nilV nilV) ∧ w'.heap[bf]? = some (.cells (FrB pv { f with R := upd f.R a (0) }) 80 (0, 0)) ∧ Keep (fun x => x = bf) w w' := by
  obtain ⟨cFn, cAt, cSt, cKi, cPa, cR, cH, zF, hlt⟩ := fr_cells hbf
  have l1 : bf < w.heap.size + 1 := by omega
  have l2 : bf < w.heap.size + 1 + 1 := by omega
  have l3 : bf < w.heap.size + 1 + 1 + 1 := by omega
  have ca := cR a ha
  have za := zF (5 + a)
  have a0 : (0 : Int) ≤ (a : Int) := by omega
  have a1 : (a : Int) < 8 := by omega
  have cb := cR b hb
  have zb := zF (5 + b)
  have b0 : (0 : Int) ≤ (b : Int) := by omega
  have b1 : (b : Int) < 8 := by omega
  have cc := cR c hc
  have zc := zF (5 + c)
  have c0 : (0 : Int) ≤ (c : Int) := by omega
  have c1 : (c : Int) < 8 := by omega
  clear cR zF cFn cAt cSt cKi cPa cH
  have he : decide (f.R b < f.R c) = false := by simpa using hn
  clear hn
  go_enter Try.func74, Try.ntmps74
  go_wp2_with fail
  refine plan_begin (fun _ => False) 18 18 rfl (by kernel_rfl) (fun hSk => ?_)
  (refine plan_q 0 rfl (by kernel_rfl) (by kernel_rfl) (by kernel_rfl) rfl rfl (fun _ _ _ _ h => h) hSk (by decide) (by kernel_rfl) (fun K hK => ?_); go_big_quiet_op; with_reducible refine hK _ ?_; clear hK K)
  (refine plan_q 1 rfl (by kernel_rfl) (by kernel_rfl) (by kernel_rfl) rfl rfl (fun _ _ _ _ h => h) hSk (by decide) (by kernel_rfl) (fun K hK => ?_); go_big_quiet_op; with_reducible refine hK _ ?_; clear hK K)
  (refine plan_q 2 rfl (by kernel_rfl) (by kernel_rfl) (by kernel_rfl) rfl rfl (fun _ _ _ _ h => h) hSk (by decide) (by kernel_rfl) (fun K hK => ?_); go_big_quiet_op; with_reducible refine hK _ ?_; clear hK K)
  (refine plan_q 3 rfl (by kernel_rfl) (by kernel_rfl) (by kernel_rfl) rfl rfl (fun _ _ _ _ h => h) hSk (by decide) (by kernel_rfl) (fun K hK => ?_); go_big_quiet_op; with_reducible refine hK _ ?_; clear hK K)
  (refine plan_q 4 rfl (by kernel_rfl) (by kernel_rfl) (by kernel_rfl) rfl rfl (fun _ _ _ _ h => h) hSk (by decide) (by kernel_rfl) (fun K hK => ?_); go_big_quiet_op; with_reducible refine hK _ ?_; clear hK K)
  (refine plan_q 5 rfl (by kernel_rfl) (by kernel_rfl) (by kernel_rfl) rfl rfl (fun _ _ _ _ h => h) hSk (by decide) (by kernel_rfl) (fun K hK => ?_); go_big_quiet_op; with_reducible refine hK _ ?_; clear hK K)
  (refine plan_q 6 rfl (by kernel_rfl) (by kernel_rfl) (by kernel_rfl) rfl rfl (fun _ _ _ _ h => h) hSk (by decide) (by kernel_rfl) (fun K hK => ?_); go_big_quiet_op; with_reducible refine hK _ ?_; clear hK K)
  (refine plan_q 7 rfl (by kernel_rfl) (by kernel_rfl) (by kernel_rfl) rfl rfl (fun _ _ _ _ h => h) hSk (by decide) (by kernel_rfl) (fun K hK => ?_); go_big_quiet_op; with_reducible refine hK _ ?_; clear hK K)
  (refine plan_q 8 rfl (by kernel_rfl) (by kernel_rfl) (by kernel_rfl) rfl rfl (fun _ _ _ _ h => h) hSk (by decide) (by kernel_rfl) (fun K hK => ?_); go_big_quiet_op; with_reducible refine hK _ ?_; clear hK K)
  (refine plan_q 9 rfl (by kernel_rfl) (by kernel_rfl) (by kernel_rfl) rfl rfl (fun _ _ _ _ h => h) hSk (by decide) (by kernel_rfl) (fun K hK => ?_); go_big_quiet_op; with_reducible refine hK _ ?_; clear hK K)
  (refine plan_q 10 rfl (by kernel_rfl) (by kernel_rfl) (by kernel_rfl) rfl rfl (fun _ _ _ _ h => h) hSk (by decide) (by kernel_rfl) (fun K hK => ?_); go_big_quiet_op; with_reducible refine hK _ ?_; clear hK K)
  (refine plan_q 11 rfl (by kernel_rfl) (by kernel_rfl) (by kernel_rfl) rfl rfl (fun _ _ _ _ h => h) hSk (by decide) (by kernel_rfl) (fun K hK => ?_); go_big_quiet_op; with_reducible refine hK _ ?_; clear hK K)
  (refine plan_q 12 rfl (by kernel_rfl) (by kernel_rfl) (by kernel_rfl) rfl rfl (fun _ _ _ _ h => h) hSk (by decide) (by kernel_rfl) (fun K hK => ?_); go_big_quiet_op; with_reducible refine hK _ ?_; clear hK K)
  (refine plan_q 13 rfl (by kernel_rfl) (by kernel_rfl) (by kernel_rfl) rfl rfl (fun _ _ _ _ h => h) hSk (by decide) (by kernel_rfl) (fun K hK => ?_); go_big_quiet_op; with_reducible refine hK _ ?_; clear hK K)
  (refine plan_q 14 rfl (by kernel_rfl) (by kernel_rfl) (by kernel_rfl) rfl rfl (fun _ _ _ _ h => h) hSk (by decide) (by kernel_rfl) (fun K hK => ?_); go_big_quiet_op; with_reducible refine hK _ ?_; clear hK K)
  (refine plan_q 15 rfl (by kernel_rfl) (by kernel_rfl) (by kernel_rfl) rfl rfl (fun _ _ _ _ h => h) hSk (by decide) (by kernel_rfl) (fun K hK => ?_); go_big_quiet_op; with_reducible refine hK _ ?_; clear hK K)
  (refine plan_q 16 rfl (by kernel_rfl) (by kernel_rfl) (by kernel_rfl) rfl rfl (fun _ _ _ _ h => h) hSk (by decide) (by kernel_rfl) (fun K hK => ?_); go_big_quiet_op; with_reducible refine hK _ ?_; clear hK K)
  (refine plan_q 17 rfl (by kernel_rfl) (by kernel_rfl) (by kernel_rfl) rfl rfl (fun _ _ _ _ h => h) hSk (by decide) (by kernel_rfl) (fun K hK => ?_); go_big_quiet_op; with_reducible refine hK _ ?_; clear hK K)
  refine plan_e (by kernel_rfl) ?_
  clear hSk
  go_wp2
  refine plan_begin (fun _ => False) 8 9 rfl (by kernel_rfl) (fun hSk => ?_)
  (refine plan_q 0 rfl (by kernel_rfl) (by kernel_rfl) (by kernel_rfl) rfl rfl (fun _ _ _ _ h => h) hSk (by decide) (by kernel_rfl) (fun K hK => ?_); go_big_quiet_op; with_reducible refine hK _ ?_; clear hK K)
  (refine plan_q 1 rfl (by kernel_rfl) (by kernel_rfl) (by kernel_rfl) rfl rfl (fun _ _ _ _ h => h) hSk (by decide) (by kernel_rfl) (fun K hK => ?_); go_big_quiet_op; with_reducible refine hK _ ?_; clear hK K)
  (refine plan_q 2 rfl (by kernel_rfl) (by kernel_rfl) (by kernel_rfl) rfl rfl (fun _ _ _ _ h => h) hSk (by decide) (by kernel_rfl) (fun K hK => ?_); go_big_quiet_op; with_reducible refine hK _ ?_; clear hK K)
  (refine plan_q 3 rfl (by kernel_rfl) (by kernel_rfl) (by kernel_rfl) rfl rfl (fun _ _ _ _ h => h) hSk (by decide) (by kernel_rfl) (fun K hK => ?_); go_big_quiet_op; with_reducible refine hK _ ?_; clear hK K)
  (refine plan_q 4 rfl (by kernel_rfl) (by kernel_rfl) (by kernel_rfl) rfl rfl (fun _ _ _ _ h => h) hSk (by decide) (by kernel_rfl) (fun K hK => ?_); go_big_quiet_op; with_reducible refine hK _ ?_; clear hK K)
  (refine plan_q 5 rfl (by kernel_rfl) (by kernel_rfl) (by kernel_rfl) rfl rfl (fun _ _ _ _ h => h) hSk (by decide) (by kernel_rfl) (fun K hK => ?_); go_big_quiet_op; with_reducible refine hK _ ?_; clear hK K)
  (refine plan_q 6 rfl (by kernel_rfl) (by kernel_rfl) (by kernel_rfl) rfl rfl (fun _ _ _ _ h => h) hSk (by decide) (by kernel_rfl) (fun K hK => ?_); go_big_quiet_op; with_reducible refine hK _ ?_; clear hK K)
  (refine plan_q 7 rfl (by kernel_rfl) (by kernel_rfl) (by kernel_rfl) rfl rfl (fun _ _ _ _ h => h) hSk (by decide) (by kernel_rfl) (fun K hK => ?_); go_big_quiet_op; with_reducible refine hK _ ?_; clear hK K)
  (refine plan_l 8 rfl (by kernel_rfl) (fun K hK => ?_); go_wp2_with (fail); (try simp only [Exit.then]); (try simp only [Act.put, List.setIfInBounds_toArray, List.set_cons_succ, List.set_cons_zero]); refine hK _ _ (fun hz0 => by exact absurd rfl hz0) (fun hSk1 => ?_); clear hK K hSk)
  refine plan_e (by kernel_rfl) ?_
  clear hSk1
  go_wp2
  go_returns
  exact ⟨rfl, by ((repeat (first | (with_reducible refine heap_drew1 ?_) | (with_reducible refine heap_lt_alloc ?_))); exact heap_near hbf (FrB_put ha _)), by (repeat (first | with_reducible exact Keep.refl _ _ | (with_reducible refine Keep.left ?_) | (with_reducible refine Keep.leftN ?_) | (with_reducible assumption) | (with_reducible refine Keep.setCell ?_ ?hs _; case hs => (first | (exact .inl rfl) | (simp; done) | (right; omega) | (right; simp; omega))) | (with_reducible refine Keep.allocs ?_ (by simp; done) _) | (with_reducible refine Keep.alloc ?_ _) | (with_reducible refine Keep.drew ?_) | (with_reducible refine Keep.drewN ?_ _) | refine Keep.thenBelow ?_ (by assumption) | refine Keep.grown ?_ (by assumption) (by intro k hk; (first | (cases hk; done) | (exfalso; simp [Value.ownBlock] at hk; done) | (simp [Value.ownBlock] at hk; subst hk; (first | (right; simp; omega) | (left; first | rfl | simp)))) ) | refine Keep.trans ?_ (by assumption) | (with_reducible refine Keep.allocs ?_ (by simp; done) _) | refine Keep.alloc ?_ _ | refine Keep.drew ?_ | refine Keep.drewN ?_ _ | refine Keep.setCell ?_ (by first | (exact .inl rfl) | (simp; done) | (right; omega) | (right; simp; omega)) _))⟩
set_option maxHeartbeats 800000 in
theorem reckon81_any (a b c : Nat) (k : Int) (ha : a < 8) (hb : b < 8) (hc : c < 8) (hn : f.R b = f.R c) :
    Calls Try.prog 74 #[.agg #[P, .int .i64 bd, .int .i64 dp, .pointer (some ⟨bf, 0, none⟩)], .agg #[.int .i64 8, .int .i64 a, .int .i64 b, .int .i64 c, .int .i64 k]] w fun e w' =>
      e = .returned (effV 1 0 0 0 0 0 nilV nilV) ∧ w'.heap[bf]? = some (.cells (FrB pv { f with R := upd f.R a (1) }) 80 (0, 0)) ∧ Keep (fun x => x = bf) w w' := by
  obtain ⟨cFn, cAt, cSt, cKi, cPa, cR, cH, zF, hlt⟩ := fr_cells hbf
  have l1 : bf < w.heap.size + 1 := by omega
  have l2 : bf < w.heap.size + 1 + 1 := by omega
  have l3 : bf < w.heap.size + 1 + 1 + 1 := by omega
  have ca := cR a ha
  have za := zF (5 + a)
  have a0 : (0 : Int) ≤ (a : Int) := by omega
  have a1 : (a : Int) < 8 := by omega
  have cb := cR b hb
  have zb := zF (5 + b)
  have b0 : (0 : Int) ≤ (b : Int) := by omega
  have b1 : (b : Int) < 8 := by omega
  have cc := cR c hc
  have zc := zF (5 + c)
  have c0 : (0 : Int) ≤ (c : Int) := by omega
  have c1 : (c : Int) < 8 := by omega
  clear cR zF cFn cAt cSt cKi cPa cH
  have he : (f.R b == f.R c) = true := by simpa using hn
  clear hn
  go_enter Try.func74, Try.ntmps74
  go_wp2_with fail
  refine plan_begin (fun _ => False) 18 18 rfl (by kernel_rfl) (fun hSk => ?_)
  (refine plan_q 0 rfl (by kernel_rfl) (by kernel_rfl) (by kernel_rfl) rfl rfl (fun _ _ _ _ h => h) hSk (by decide) (by kernel_rfl) (fun K hK => ?_); go_big_quiet_op; with_reducible refine hK _ ?_; clear hK K)
  (refine plan_q 1 rfl (by kernel_rfl) (by kernel_rfl) (by kernel_rfl) rfl rfl (fun _ _ _ _ h => h) hSk (by decide) (by kernel_rfl) (fun K hK => ?_); go_big_quiet_op; with_reducible refine hK _ ?_; clear hK K)
  (refine plan_q 2 rfl (by kernel_rfl) (by kernel_rfl) (by kernel_rfl) rfl rfl (fun _ _ _ _ h => h) hSk (by decide) (by kernel_rfl) (fun K hK => ?_); go_big_quiet_op; with_reducible refine hK _ ?_; clear hK K)
  (refine plan_q 3 rfl (by kernel_rfl) (by kernel_rfl) (by kernel_rfl) rfl rfl (fun _ _ _ _ h => h) hSk (by decide) (by kernel_rfl) (fun K hK => ?_); go_big_quiet_op; with_reducible refine hK _ ?_; clear hK K)
  (refine plan_q 4 rfl (by kernel_rfl) (by kernel_rfl) (by kernel_rfl) rfl rfl (fun _ _ _ _ h => h) hSk (by decide) (by kernel_rfl) (fun K hK => ?_); go_big_quiet_op; with_reducible refine hK _ ?_; clear hK K)
  (refine plan_q 5 rfl (by kernel_rfl) (by kernel_rfl) (by kernel_rfl) rfl rfl (fun _ _ _ _ h => h) hSk (by decide) (by kernel_rfl) (fun K hK => ?_); go_big_quiet_op; with_reducible refine hK _ ?_; clear hK K)
  (refine plan_q 6 rfl (by kernel_rfl) (by kernel_rfl) (by kernel_rfl) rfl rfl (fun _ _ _ _ h => h) hSk (by decide) (by kernel_rfl) (fun K hK => ?_); go_big_quiet_op; with_reducible refine hK _ ?_; clear hK K)
  (refine plan_q 7 rfl (by kernel_rfl) (by kernel_rfl) (by kernel_rfl) rfl rfl (fun _ _ _ _ h => h) hSk (by decide) (by kernel_rfl) (fun K hK => ?_); go_big_quiet_op; with_reducible refine hK _ ?_; clear hK K)
  (refine plan_q 8 rfl (by kernel_rfl) (by kernel_rfl) (by kernel_rfl) rfl rfl (fun _ _ _ _ h => h) hSk (by decide) (by kernel_rfl) (fun K hK => ?_); go_big_quiet_op; with_reducible refine hK _ ?_; clear hK K)
  (refine plan_q 9 rfl (by kernel_rfl) (by kernel_rfl) (by kernel_rfl) rfl rfl (fun _ _ _ _ h => h) hSk (by decide) (by kernel_rfl) (fun K hK => ?_); go_big_quiet_op; with_reducible refine hK _ ?_; clear hK K)
  (refine plan_q 10 rfl (by kernel_rfl) (by kernel_rfl) (by kernel_rfl) rfl rfl (fun _ _ _ _ h => h) hSk (by decide) (by kernel_rfl) (fun K hK => ?_); go_big_quiet_op; with_reducible refine hK _ ?_; clear hK K)
  (refine plan_q 11 rfl (by kernel_rfl) (by kernel_rfl) (by kernel_rfl) rfl rfl (fun _ _ _ _ h => h) hSk (by decide) (by kernel_rfl) (fun K hK => ?_); go_big_quiet_op; with_reducible refine hK _ ?_; clear hK K)
  (refine plan_q 12 rfl (by kernel_rfl) (by kernel_rfl) (by kernel_rfl) rfl rfl (fun _ _ _ _ h => h) hSk (by decide) (by kernel_rfl) (fun K hK => ?_); go_big_quiet_op; with_reducible refine hK _ ?_; clear hK K)
  (refine plan_q 13 rfl (by kernel_rfl) (by kernel_rfl) (by kernel_rfl) rfl rfl (fun _ _ _ _ h => h) hSk (by decide) (by kernel_rfl) (fun K hK => ?_); go_big_quiet_op; with_reducible refine hK _ ?_; clear hK K)
  (refine plan_q 14 rfl (by kernel_rfl) (by kernel_rfl) (by kernel_rfl) rfl rfl (fun _ _ _ _ h => h) hSk (by decide) (by kernel_rfl) (fun K hK => ?_); go_big_quiet_op; with_reducible refine hK _ ?_; clear hK K)
  (refine plan_q 15 rfl (by kernel_rfl) (by kernel_rfl) (by kernel_rfl) rfl rfl (fun _ _ _ _ h => h) hSk (by decide) (by kernel_rfl) (fun K hK => ?_); go_big_quiet_op; with_reducible refine hK _ ?_; clear hK K)
  (refine plan_q 16 rfl (by kernel_rfl) (by kernel_rfl) (by kernel_rfl) rfl rfl (fun _ _ _ _ h => h) hSk (by decide) (by kernel_rfl) (fun K hK => ?_); go_big_quiet_op; with_reducible refine hK _ ?_; clear hK K)
  (refine plan_q 17 rfl (by kernel_rfl) (by kernel_rfl) (by kernel_rfl) rfl rfl (fun _ _ _ _ h => h) hSk (by decide) (by kernel_rfl) (fun K hK => ?_); go_big_quiet_op; with_reducible refine hK _ ?_; clear hK K)
  refine plan_e (by kernel_rfl) ?_
  clear hSk
  go_wp2
  refine plan_begin (fun _ => False) 8 9 rfl (by kernel_rfl) (fun hSk => ?_)
  (refine plan_q 0 rfl (by kernel_rfl) (by kernel_rfl) (by kernel_rfl) rfl rfl (fun _ _ _ _ h => h) hSk (by decide) (by kernel_rfl) (fun K hK => ?_); go_big_quiet_op; with_reducible refine hK _ ?_; clear hK K)
  (refine plan_q 1 rfl (by kernel_rfl) (by kernel_rfl) (by kernel_rfl) rfl rfl (fun _ _ _ _ h => h) hSk (by decide) (by kernel_rfl) (fun K hK => ?_); go_big_quiet_op; with_reducible refine hK _ ?_; clear hK K)
  (refine plan_q 2 rfl (by kernel_rfl) (by kernel_rfl) (by kernel_rfl) rfl rfl (fun _ _ _ _ h => h) hSk (by decide) (by kernel_rfl) (fun K hK => ?_); go_big_quiet_op; with_reducible refine hK _ ?_; clear hK K)
  (refine plan_q 3 rfl (by kernel_rfl) (by kernel_rfl) (by kernel_rfl) rfl rfl (fun _ _ _ _ h => h) hSk (by decide) (by kernel_rfl) (fun K hK => ?_); go_big_quiet_op; with_reducible refine hK _ ?_; clear hK K)
  (refine plan_q 4 rfl (by kernel_rfl) (by kernel_rfl) (by kernel_rfl) rfl rfl (fun _ _ _ _ h => h) hSk (by decide) (by kernel_rfl) (fun K hK => ?_); go_big_quiet_op; with_reducible refine hK _ ?_; clear hK K)
  (refine plan_q 5 rfl (by kernel_rfl) (by kernel_rfl) (by kernel_rfl) rfl rfl (fun _ _ _ _ h => h) hSk (by decide) (by kernel_rfl) (fun K hK => ?_); go_big_quiet_op; with_reducible refine hK _ ?_; clear hK K)
  (refine plan_q 6 rfl (by kernel_rfl) (by kernel_rfl) (by kernel_rfl) rfl rfl (fun _ _ _ _ h => h) hSk (by decide) (by kernel_rfl) (fun K hK => ?_); go_big_quiet_op; with_reducible refine hK _ ?_; clear hK K)
  (refine plan_q 7 rfl (by kernel_rfl) (by kernel_rfl) (by kernel_rfl) rfl rfl (fun _ _ _ _ h => h) hSk (by decide) (by kernel_rfl) (fun K hK => ?_); go_big_quiet_op; with_reducible refine hK _ ?_; clear hK K)
  (refine plan_l 8 rfl (by kernel_rfl) (fun K hK => ?_); go_wp2_with (fail); (try simp only [Exit.then]); (try simp only [Act.put, List.setIfInBounds_toArray, List.set_cons_succ, List.set_cons_zero]); refine hK _ _ (fun hz0 => by exact absurd rfl hz0) (fun hSk1 => ?_); clear hK K hSk)
  refine plan_e (by kernel_rfl) ?_
  clear hSk1
  go_wp2
  go_returns
  exact ⟨rfl, by ((repeat (first | (with_reducible refine heap_drew1 ?_) | (with_reducible refine heap_lt_alloc ?_))); exact heap_near hbf (FrB_put ha _)), by (repeat (first | with_reducible exact Keep.refl _ _ | (with_reducible refine Keep.left ?_) | (with_reducible refine Keep.leftN ?_) | (with_reducible assumption) | (with_reducible refine Keep.setCell ?_ ?hs _; case hs => (first | (exact .inl rfl) | (simp; done) | (right; omega) | (right; simp; omega))) | (with_reducible refine Keep.allocs ?_ (by simp; done) _) | (with_reducible refine Keep.alloc ?_ _) | (with_reducible refine Keep.drew ?_) | (with_reducible refine Keep.drewN ?_ _) | refine Keep.thenBelow ?_ (by assumption) | refine Keep.grown ?_ (by assumption) (by intro k hk; (first | (cases hk; done) | (exfalso; simp [Value.ownBlock] at hk; done) | (simp [Value.ownBlock] at hk; subst hk; (first | (right; simp; omega) | (left; first | rfl | simp)))) ) | refine Keep.trans ?_ (by assumption) | (with_reducible refine Keep.allocs ?_ (by simp; done) _) | refine Keep.alloc ?_ _ | refine Keep.drew ?_ | refine Keep.drewN ?_ _ | refine Keep.setCell ?_ (by first | (exact .inl rfl) | (simp; done) | (right; omega) | (right; simp; omega)) _))⟩
set_option maxHeartbeats 800000 in
theorem reckon80_any (a b c : Nat) (k : Int) (ha : a < 8) (hb : b < 8) (hc : c < 8) (hn : ¬ f.R b = f.R c) :
    Calls Try.prog 74 #[.agg #[P, .int .i64 bd, .int .i64 dp, .pointer (some ⟨bf, 0, none⟩)], .agg #[.int .i64 8, .int .i64 a, .int .i64 b, .int .i64 c, .int .i64 k]] w fun e w' =>
      e = .returned (effV 1 0 0 0 0 0 nilV nilV) ∧ w'.heap[bf]? = some (.cells (FrB pv { f with R := upd f.R a (0) }) 80 (0, 0)) ∧ Keep (fun x => x = bf) w w' := by
  obtain ⟨cFn, cAt, cSt, cKi, cPa, cR, cH, zF, hlt⟩ := fr_cells hbf
  have l1 : bf < w.heap.size + 1 := by omega
  have l2 : bf < w.heap.size + 1 + 1 := by omega
  have l3 : bf < w.heap.size + 1 + 1 + 1 := by omega
  have ca := cR a ha
  have za := zF (5 + a)
  have a0 : (0 : Int) ≤ (a : Int) := by omega
  have a1 : (a : Int) < 8 := by omega
  have cb := cR b hb
  have zb := zF (5 + b)
  have b0 : (0 : Int) ≤ (b : Int) := by omega
  have b1 : (b : Int) < 8 := by omega
  have cc := cR c hc
  have zc := zF (5 + c)
  have c0 : (0 : Int) ≤ (c : Int) := by omega
  have c1 : (c : Int) < 8 := by omega
  clear cR zF cFn cAt cSt cKi cPa cH
  have he : (f.R b == f.R c) = false := by simpa using hn
  clear hn
  go_enter Try.func74, Try.ntmps74
  go_wp2_with fail
  refine plan_begin (fun _ => False) 18 18 rfl (by kernel_rfl) (fun hSk => ?_)
  (refine plan_q 0 rfl (by kernel_rfl) (by kernel_rfl) (by kernel_rfl) rfl rfl (fun _ _ _ _ h => h) hSk (by decide) (by kernel_rfl) (fun K hK => ?_); go_big_quiet_op; with_reducible refine hK _ ?_; clear hK K)
  (refine plan_q 1 rfl (by kernel_rfl) (by kernel_rfl) (by kernel_rfl) rfl rfl (fun _ _ _ _ h => h) hSk (by decide) (by kernel_rfl) (fun K hK => ?_); go_big_quiet_op; with_reducible refine hK _ ?_; clear hK K)
  (refine plan_q 2 rfl (by kernel_rfl) (by kernel_rfl) (by kernel_rfl) rfl rfl (fun _ _ _ _ h => h) hSk (by decide) (by kernel_rfl) (fun K hK => ?_); go_big_quiet_op; with_reducible refine hK _ ?_; clear hK K)
  (refine plan_q 3 rfl (by kernel_rfl) (by kernel_rfl) (by kernel_rfl) rfl rfl (fun _ _ _ _ h => h) hSk (by decide) (by kernel_rfl) (fun K hK => ?_); go_big_quiet_op; with_reducible refine hK _ ?_; clear hK K)
  (refine plan_q 4 rfl (by kernel_rfl) (by kernel_rfl) (by kernel_rfl) rfl rfl (fun _ _ _ _ h => h) hSk (by decide) (by kernel_rfl) (fun K hK => ?_); go_big_quiet_op; with_reducible refine hK _ ?_; clear hK K)
  (refine plan_q 5 rfl (by kernel_rfl) (by kernel_rfl) (by kernel_rfl) rfl rfl (fun _ _ _ _ h => h) hSk (by decide) (by kernel_rfl) (fun K hK => ?_); go_big_quiet_op; with_reducible refine hK _ ?_; clear hK K)
  (refine plan_q 6 rfl (by kernel_rfl) (by kernel_rfl) (by kernel_rfl) rfl rfl (fun _ _ _ _ h => h) hSk (by decide) (by kernel_rfl) (fun K hK => ?_); go_big_quiet_op; with_reducible refine hK _ ?_; clear hK K)
  (refine plan_q 7 rfl (by kernel_rfl) (by kernel_rfl) (by kernel_rfl) rfl rfl (fun _ _ _ _ h => h) hSk (by decide) (by kernel_rfl) (fun K hK => ?_); go_big_quiet_op; with_reducible refine hK _ ?_; clear hK K)
  (refine plan_q 8 rfl (by kernel_rfl) (by kernel_rfl) (by kernel_rfl) rfl rfl (fun _ _ _ _ h => h) hSk (by decide) (by kernel_rfl) (fun K hK => ?_); go_big_quiet_op; with_reducible refine hK _ ?_; clear hK K)
  (refine plan_q 9 rfl (by kernel_rfl) (by kernel_rfl) (by kernel_rfl) rfl rfl (fun _ _ _ _ h => h) hSk (by decide) (by kernel_rfl) (fun K hK => ?_); go_big_quiet_op; with_reducible refine hK _ ?_; clear hK K)
  (refine plan_q 10 rfl (by kernel_rfl) (by kernel_rfl) (by kernel_rfl) rfl rfl (fun _ _ _ _ h => h) hSk (by decide) (by kernel_rfl) (fun K hK => ?_); go_big_quiet_op; with_reducible refine hK _ ?_; clear hK K)
  (refine plan_q 11 rfl (by kernel_rfl) (by kernel_rfl) (by kernel_rfl) rfl rfl (fun _ _ _ _ h => h) hSk (by decide) (by kernel_rfl) (fun K hK => ?_); go_big_quiet_op; with_reducible refine hK _ ?_; clear hK K)
  (refine plan_q 12 rfl (by kernel_rfl) (by kernel_rfl) (by kernel_rfl) rfl rfl (fun _ _ _ _ h => h) hSk (by decide) (by kernel_rfl) (fun K hK => ?_); go_big_quiet_op; with_reducible refine hK _ ?_; clear hK K)
  (refine plan_q 13 rfl (by kernel_rfl) (by kernel_rfl) (by kernel_rfl) rfl rfl (fun _ _ _ _ h => h) hSk (by decide) (by kernel_rfl) (fun K hK => ?_); go_big_quiet_op; with_reducible refine hK _ ?_; clear hK K)
  (refine plan_q 14 rfl (by kernel_rfl) (by kernel_rfl) (by kernel_rfl) rfl rfl (fun _ _ _ _ h => h) hSk (by decide) (by kernel_rfl) (fun K hK => ?_); go_big_quiet_op; with_reducible refine hK _ ?_; clear hK K)
  (refine plan_q 15 rfl (by kernel_rfl) (by kernel_rfl) (by kernel_rfl) rfl rfl (fun _ _ _ _ h => h) hSk (by decide) (by kernel_rfl) (fun K hK => ?_); go_big_quiet_op; with_reducible refine hK _ ?_; clear hK K)
  (refine plan_q 16 rfl (by kernel_rfl) (by kernel_rfl) (by kernel_rfl) rfl rfl (fun _ _ _ _ h => h) hSk (by decide) (by kernel_rfl) (fun K hK => ?_); go_big_quiet_op; with_reducible refine hK _ ?_; clear hK K)
  (refine plan_q 17 rfl (by kernel_rfl) (by kernel_rfl) (by kernel_rfl) rfl rfl (fun _ _ _ _ h => h) hSk (by decide) (by kernel_rfl) (fun K hK => ?_); go_big_quiet_op; with_reducible refine hK _ ?_; clear hK K)
  refine plan_e (by kernel_rfl) ?_
  clear hSk
  go_wp2
  refine plan_begin (fun _ => False) 8 9 rfl (by kernel_rfl) (fun hSk => ?_)
  (refine plan_q 0 rfl (by kernel_rfl) (by kernel_rfl) (by kernel_rfl) rfl rfl (fun _ _ _ _ h => h) hSk (by decide) (by kernel_rfl) (fun K hK => ?_); go_big_quiet_op; with_reducible refine hK _ ?_; clear hK K)
  (refine plan_q 1 rfl (by kernel_rfl) (by kernel_rfl) (by kernel_rfl) rfl rfl (fun _ _ _ _ h => h) hSk (by decide) (by kernel_rfl) (fun K hK => ?_); go_big_quiet_op; with_reducible refine hK _ ?_; clear hK K)
  (refine plan_q 2 rfl (by kernel_rfl) (by kernel_rfl) (by kernel_rfl) rfl rfl (fun _ _ _ _ h => h) hSk (by decide) (by kernel_rfl) (fun K hK => ?_); go_big_quiet_op; with_reducible refine hK _ ?_; clear hK K)
  (refine plan_q 3 rfl (by kernel_rfl) (by kernel_rfl) (by kernel_rfl) rfl rfl (fun _ _ _ _ h => h) hSk (by decide) (by kernel_rfl) (fun K hK => ?_); go_big_quiet_op; with_reducible refine hK _ ?_; clear hK K)
  (refine plan_q 4 rfl (by kernel_rfl) (by kernel_rfl) (by kernel_rfl) rfl rfl (fun _ _ _ _ h => h) hSk (by decide) (by kernel_rfl) (fun K hK => ?_); go_big_quiet_op; with_reducible refine hK _ ?_; clear hK K)
  (refine plan_q 5 rfl (by kernel_rfl) (by kernel_rfl) (by kernel_rfl) rfl rfl (fun _ _ _ _ h => h) hSk (by decide) (by kernel_rfl) (fun K hK => ?_); go_big_quiet_op; with_reducible refine hK _ ?_; clear hK K)
  (refine plan_q 6 rfl (by kernel_rfl) (by kernel_rfl) (by kernel_rfl) rfl rfl (fun _ _ _ _ h => h) hSk (by decide) (by kernel_rfl) (fun K hK => ?_); go_big_quiet_op; with_reducible refine hK _ ?_; clear hK K)
  (refine plan_q 7 rfl (by kernel_rfl) (by kernel_rfl) (by kernel_rfl) rfl rfl (fun _ _ _ _ h => h) hSk (by decide) (by kernel_rfl) (fun K hK => ?_); go_big_quiet_op; with_reducible refine hK _ ?_; clear hK K)
  (refine plan_l 8 rfl (by kernel_rfl) (fun K hK => ?_); go_wp2_with (fail); (try simp only [Exit.then]); (try simp only [Act.put, List.setIfInBounds_toArray, List.set_cons_succ, List.set_cons_zero]); refine hK _ _ (fun hz0 => by exact absurd rfl hz0) (fun hSk1 => ?_); clear hK K hSk)
  refine plan_e (by kernel_rfl) ?_
  clear hSk1
  go_wp2
  go_returns
  exact ⟨rfl, by ((repeat (first | (with_reducible refine heap_drew1 ?_) | (with_reducible refine heap_lt_alloc ?_))); exact heap_near hbf (FrB_put ha _)), by (repeat (first | with_reducible exact Keep.refl _ _ | (with_reducible refine Keep.left ?_) | (with_reducible refine Keep.leftN ?_) | (with_reducible assumption) | (with_reducible refine Keep.setCell ?_ ?hs _; case hs => (first | (exact .inl rfl) | (simp; done) | (right; omega) | (right; simp; omega))) | (with_reducible refine Keep.allocs ?_ (by simp; done) _) | (with_reducible refine Keep.alloc ?_ _) | (with_reducible refine Keep.drew ?_) | (with_reducible refine Keep.drewN ?_ _) | refine Keep.thenBelow ?_ (by assumption) | refine Keep.grown ?_ (by assumption) (by intro k hk; (first | (cases hk; done) | (exfalso; simp [Value.ownBlock] at hk; done) | (simp [Value.ownBlock] at hk; subst hk; (first | (right; simp; omega) | (left; first | rfl | simp)))) ) | refine Keep.trans ?_ (by assumption) | (with_reducible refine Keep.allocs ?_ (by simp; done) _) | refine Keep.alloc ?_ _ | refine Keep.drew ?_ | refine Keep.drewN ?_ _ | refine Keep.setCell ?_ (by first | (exact .inl rfl) | (simp; done) | (right; omega) | (right; simp; omega)) _))⟩
end
end Go.Proofs.Ytimmglnbjgbbjaa
