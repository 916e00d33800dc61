/- begin at the depth; spawn and future of package frame. No conditions. -/
import Derived.Test.YtimmglnbjgbbjaaFr3
import Derived.Deep.DeepMust
set_option linter.unusedSimpArgs false
set_option linter.unusedVariables false
namespace Go.Proofs.Ytimmglnbjgbbjaa
open Go.RowKit Go.Proofs.YtimmglnbjgbbjaaW.PrintWords
section
variable (P : Value) (bd dp : Int) (bf : Nat) (PA : Option Addr) (pc n : Nat) (f : Fr) (w : World)
  (hbf : w.heap[bf]? = some (.cells (FrB (.slice PA n pc) f) 80 (0, 0)))
include hbf
set_option maxHeartbeats 800000 in
theorem begin_deep (op a b c k kind reg hand : Int) (hd : dp ≤ (n : Int)) :
    Calls Try.prog 101 #[.agg #[P, .int .i64 bd, .int .i64 dp, .pointer (some ⟨bf, 0, none⟩)], .agg #[.int .i64 op, .int .i64 a, .int .i64 b, .int .i64 c, .int .i64 k], effV kind 0 reg 0 hand 0 nilV nilV] w fun e w' =>
      e = .returned (effV 8 0 0 0 0 4 nilV nilV) ∧ w'.heap[bf]? = some (.cells (FrB (.slice PA n pc) f) 80 (0, 0)) ∧ Keep (fun x => x = bf) w w' := by
  obtain ⟨cFn, cAt, cSt, cKi, cPa, cR, cH, zF, hlt⟩ := fr_cells hbf
  have l1 : bf < w.heap.size + 1 := by omega
  have l2 : bf < w.heap.size + 1 + 1 := by omega
  have l3 : bf < w.heap.size + 1 + 1 + 1 := by omega
  have l4 : bf < w.heap.size + 1 + 1 + 1 + 1 := by omega
  have hd1 : decide (dp ≤ (n : Int)) = true := by simpa using hd
  clear cR zF cFn cAt cSt cKi cH hd
  unfold effV
  go_enter Try.func101, Try.ntmps101
  go_wp2_with fail
  refine plan_begin (fun _ => False) 10 10 rfl (by kernel_rfl) (fun hSk => ?_)
  (refine plan_q 0 rfl (by kernel_rfl) (by kernel_rfl) (by kernel_rfl) rfl rfl (fun _ _ _ _ h => h) hSk (by decide) (by kernel_rfl) (fun K hK => ?_); go_big_quiet_op; with_reducible refine hK _ ?_; clear hK K)
  (refine plan_q 1 rfl (by kernel_rfl) (by kernel_rfl) (by kernel_rfl) rfl rfl (fun _ _ _ _ h => h) hSk (by decide) (by kernel_rfl) (fun K hK => ?_); go_big_quiet_op; with_reducible refine hK _ ?_; clear hK K)
  (refine plan_q 2 rfl (by kernel_rfl) (by kernel_rfl) (by kernel_rfl) rfl rfl (fun _ _ _ _ h => h) hSk (by decide) (by kernel_rfl) (fun K hK => ?_); go_big_quiet_op; with_reducible refine hK _ ?_; clear hK K)
  (refine plan_q 3 rfl (by kernel_rfl) (by kernel_rfl) (by kernel_rfl) rfl rfl (fun _ _ _ _ h => h) hSk (by decide) (by kernel_rfl) (fun K hK => ?_); go_big_quiet_op; with_reducible refine hK _ ?_; clear hK K)
  (refine plan_q 4 rfl (by kernel_rfl) (by kernel_rfl) (by kernel_rfl) rfl rfl (fun _ _ _ _ h => h) hSk (by decide) (by kernel_rfl) (fun K hK => ?_); go_big_quiet_op; with_reducible refine hK _ ?_; clear hK K)
  (refine plan_q 5 rfl (by kernel_rfl) (by kernel_rfl) (by kernel_rfl) rfl rfl (fun _ _ _ _ h => h) hSk (by decide) (by kernel_rfl) (fun K hK => ?_); go_big_quiet_op; with_reducible refine hK _ ?_; clear hK K)
  (refine plan_q 6 rfl (by kernel_rfl) (by kernel_rfl) (by kernel_rfl) rfl rfl (fun _ _ _ _ h => h) hSk (by decide) (by kernel_rfl) (fun K hK => ?_); go_big_quiet_op; with_reducible refine hK _ ?_; clear hK K)
  (refine plan_q 7 rfl (by kernel_rfl) (by kernel_rfl) (by kernel_rfl) rfl rfl (fun _ _ _ _ h => h) hSk (by decide) (by kernel_rfl) (fun K hK => ?_); go_big_quiet_op; with_reducible refine hK _ ?_; clear hK K)
  (refine plan_q 8 rfl (by kernel_rfl) (by kernel_rfl) (by kernel_rfl) rfl rfl (fun _ _ _ _ h => h) hSk (by decide) (by kernel_rfl) (fun K hK => ?_); go_big_quiet_op; with_reducible refine hK _ ?_; clear hK K)
  (refine plan_q 9 rfl (by kernel_rfl) (by kernel_rfl) (by kernel_rfl) rfl rfl (fun _ _ _ _ h => h) hSk (by decide) (by kernel_rfl) (fun K hK => ?_); go_big_quiet_op; with_reducible refine hK _ ?_; clear hK K)
  refine plan_e (by kernel_rfl) ?_
  clear hSk
  go_wp2
  go_returns
  exact ⟨rfl, by ((repeat (first | (with_reducible refine heap_drew1 ?_) | (with_reducible refine heap_lt_alloc ?_))); exact hbf), by (repeat (first | with_reducible exact Keep.refl _ _ | (with_reducible refine Keep.left ?_) | (with_reducible refine Keep.leftN ?_) | (with_reducible assumption) | (with_reducible refine Keep.setCell ?_ ?hs _; case hs => (first | (exact .inl rfl) | (simp; done) | (right; omega) | (right; simp; omega))) | (with_reducible refine Keep.allocs ?_ (by simp; done) _) | (with_reducible refine Keep.alloc ?_ _) | (with_reducible refine Keep.drew ?_) | (with_reducible refine Keep.drewN ?_ _) | refine Keep.thenBelow ?_ (by assumption) | refine Keep.grown ?_ (by assumption) (by intro k hk; (first | (cases hk; done) | (exfalso; simp [Value.ownBlock] at hk; done) | (simp [Value.ownBlock] at hk; subst hk; (first | (right; simp; omega) | (left; first | rfl | simp)))) ) | refine Keep.trans ?_ (by assumption) | (with_reducible refine Keep.allocs ?_ (by simp; done) _) | refine Keep.alloc ?_ _ | refine Keep.drew ?_ | refine Keep.drewN ?_ _ | refine Keep.setCell ?_ (by first | (exact .inl rfl) | (simp; done) | (right; omega) | (right; simp; omega)) _))⟩
end
section
variable (A : Option Addr) (cp : Nat) (p : List Fn) (bd dp : Int) (bf : Nat) (PA : Option Addr) (pc : Nat) (path : List Int) (f : Fr) (w : World)
  (hbf : w.heap[bf]? = some (.cells (FrB (.slice PA path.length pc) f) 80 (0, 0)))
  (hpath : Kd.C (Kd.int .i64) w PA path.length path) (hpl : path.length ≤ 1000) (hp : Kd.C (kFn 34) w A p.length p)
include hbf hpath hpl hp
set_option maxHeartbeats 800000 in
theorem spawn_any (op a : Int) (b c ar : Nat) (k : Int) (fc : Fn) (hf : p[c]? = some fc) (har : fc.ar = ar) (hb7 : b < 8) (hb : b + ar ≤ 8) (hd : ¬ dp ≤ (path.length : Int)) :
    Calls Try.prog 77 #[.agg #[.slice A p.length cp, .int .i64 bd, .int .i64 dp, .pointer (some ⟨bf, 0, none⟩)], .agg #[.int .i64 op, .int .i64 a, .int .i64 b, .int .i64 c, .int .i64 k]] w fun e w' =>
      ∃ av qv, e = .returned (effV 3 0 a c 0 0 av qv) ∧ Kd.R (Kd.int .i64) 2 w' w.heap.size (fun _ => True) av (regsOf f.R b ar) ∧ Kd.R (Kd.int .i64) 3 w' w.heap.size (fun _ => True) qv (path ++ [f.kids]) ∧
        w'.heap[bf]? = some (.cells (FrB (.slice PA path.length pc) { f with kids := wrap64 (f.kids + 1) }) 80 (0, 0)) ∧ Keep (fun x => x = bf) w w' := by
  have hlt : bf < w.heap.size := blk_lt hbf
  have HB := Aside0.mk hbf
  have HP := Aside0.mk hpath
  have HQ := Aside0.mk hp
  clear hbf hpath hp
  go_enter Try.func77, Try.ntmps77
  have tbf : ¬ w.heap.size + 1 + 1 = bf := by omega
  go_wp2_with (go_at_call 101; go_must (refine (begin_any A cp p bd dp bf PA pc path f _ (by have q := HB.out; (repeat (first | (with_reducible assumption) | (with_reducible refine heap_drew1 ?_) | (with_reducible refine heap_drewN1 ?_) | exact heap_at_alloc (by first | rfl | (simp; done) | (simp; omega)) | (with_reducible refine heap_lt_alloc ?_) | (refine heap_near ?_ (by first | rfl | (simp; done))) | (refine heap_far ?_ (by first | (simp; done) | (simp; omega))) | exact blk_below (by assumption) (by assumption)))) (Kd.C_below HP.out (by (repeat (first | exact Below.refl _ _ | (with_reducible assumption) | refine below_thenB ?_ (by assumption) | refine below_alloc ?_ _ | refine below_drew ?_ | refine pw_below_drewN ?_ _ | refine Below.setCell ?_ (by first | (simp; done) | omega | (simp; omega)) _)))) hpl (Kd.C_below HQ.out (by (repeat (first | exact Below.refl _ _ | (with_reducible assumption) | refine below_thenB ?_ (by assumption) | refine below_alloc ?_ _ | refine below_drew ?_ | refine pw_below_drewN ?_ _ | refine Below.setCell ?_ (by first | (simp; done) | omega | (simp; omega)) _)))) op a b c ar k fc hf har hb7 hb 3 a 0 hd).mono ?_; rintro e w2 ⟨av, qv, rfl, hA, hQ, hF, hK⟩; (obtain ⟨Aa, ca, rfl⟩ := Kd.R_slice hA); (obtain ⟨Av, cv, rfl⟩ := Kd.R_slice hQ); (rw [show (path ++ [f.kids]).length = path.length + 1 by simp] at hQ ⊢); (have qT : w2.heap[w.heap.size + 1 + 1]? = some (.cells #[.int .i64 0, .int .i64 0, .int .i64 0, .int .i64 0, .int .i64 0, .int .i64 0, nilV, nilV] 60 (0, 0)) := hK.heap (by (repeat (first | (with_reducible assumption) | (with_reducible refine heap_drew1 ?_) | (with_reducible refine heap_drewN1 ?_) | exact heap_at_alloc (by first | rfl | (simp; done) | (simp; omega)) | (with_reducible refine heap_lt_alloc ?_) | (refine heap_near ?_ (by first | rfl | (simp; done))) | (refine heap_far ?_ (by first | (simp; done) | (simp; omega))) | exact blk_below (by assumption) (by assumption)))) tbf); (have cT := fun j => blk_cell qT j); (have zT : ∀ o, w2.frozen? ⟨w.heap.size + 1 + 1, o, none⟩ = false := fun o => by simp [World.frozen?, qT]); unfold effV))
  obtain ⟨Z, hZ⟩ : ∃ Z, Z = ((((((((w2.setCell ⟨w.heap.size + 1 + 1, 0, none⟩ (.int .i64 3)).setCell ⟨w.heap.size + 1 + 1, 1, none⟩ (.int .i64 0)).setCell ⟨w.heap.size + 1 + 1, 2, none⟩ (.int .i64 a)).setCell ⟨w.heap.size + 1 + 1, 3, none⟩ (.int .i64 c)).setCell ⟨w.heap.size + 1 + 1, 4, none⟩ (.int .i64 0)).setCell ⟨w.heap.size + 1 + 1, 5, none⟩ (.int .i64 0)).setCell ⟨w.heap.size + 1 + 1, 6, none⟩ (.slice Aa (regsOf f.R b ar).length ca)).setCell ⟨w.heap.size + 1 + 1, 7, none⟩ (.slice Av (path.length + 1) cv)) := ⟨_, rfl⟩
  rw [← hZ]
  have kA : Kd.R (Kd.int .i64) 2 w2 (w.heap.size + 1 + 1 + 1) (fun _ => True) (.slice Aa (regsOf f.R b ar).length ca) (regsOf f.R b ar) := Kd.R_lower hA (by simp)
  have kQ : Kd.R (Kd.int .i64) 3 w2 (w.heap.size + 1 + 1 + 1) (fun _ => True) (.slice Av (path.length + 1) cv) (path ++ [f.kids]) := Kd.R_lower hQ (by simp)
  have kK : Keep (fun x => x = bf) w w2 := Keep.trans (Keep.of_below _ (by (repeat (first | exact Below.refl _ _ | (with_reducible assumption) | refine below_thenB ?_ (by assumption) | refine below_alloc ?_ _ | refine below_drew ?_ | refine pw_below_drewN ?_ _ | refine Below.setCell ?_ (by first | (simp; done) | omega | (simp; omega)) _)))) hK
  have tT : Z.heap[w.heap.size + 1 + 1]? = some (.cells #[.int .i64 3, .int .i64 0, .int .i64 a, .int .i64 c, .int .i64 0, .int .i64 0, .slice Aa (regsOf f.R b ar).length ca, .slice Av (path.length + 1) cv] 60 (0, 0)) := by rw [hZ]; exact put8 qT
  have tF : Z.heap[bf]? = some (.cells (FrB (.slice PA path.length pc) { f with kids := wrap64 (f.kids + 1) }) 80 (0, 0)) := by rw [hZ]; exact heap_far (heap_far (heap_far (heap_far (heap_far (heap_far (heap_far (heap_far (hF) (by simp <;> omega)) (by simp <;> omega)) (by simp <;> omega)) (by simp <;> omega)) (by simp <;> omega)) (by simp <;> omega)) (by simp <;> omega)) (by simp <;> omega)
  have tA : Kd.R (Kd.int .i64) 2 Z (w.heap.size + 1 + 1 + 1) (fun _ => True) (.slice Aa (regsOf f.R b ar).length ca) (regsOf f.R b ar) := by rw [hZ]; exact R_set_below (R_set_below (R_set_below (R_set_below (R_set_below (R_set_below (R_set_below (R_set_below (kA) (by simp <;> omega) _) (by simp <;> omega) _) (by simp <;> omega) _) (by simp <;> omega) _) (by simp <;> omega) _) (by simp <;> omega) _) (by simp <;> omega) _) (by simp <;> omega) _
  have tQ : Kd.R (Kd.int .i64) 3 Z (w.heap.size + 1 + 1 + 1) (fun _ => True) (.slice Av (path.length + 1) cv) (path ++ [f.kids]) := by rw [hZ]; exact R_set_below (R_set_below (R_set_below (R_set_below (R_set_below (R_set_below (R_set_below (R_set_below (kQ) (by simp <;> omega) _) (by simp <;> omega) _) (by simp <;> omega) _) (by simp <;> omega) _) (by simp <;> omega) _) (by simp <;> omega) _) (by simp <;> omega) _) (by simp <;> omega) _
  have tg : w.heap.size ≤ w.heap.size + 1 + 1 := by omega
  have tk : Keep (fun x => x = bf) w Z := by rw [hZ]; exact keep8 (S := fun x => x = bf) kK (.inr tg) _ _ _ _ _ _ _ _
  clear hZ
  have cZ0 : Z.cell? ⟨w.heap.size + 1 + 1, 0, none⟩ = some (.int .i64 3) := blk_cell tT 0
  have cZ1 : Z.cell? ⟨w.heap.size + 1 + 1, 1, none⟩ = some (.int .i64 0) := blk_cell tT 1
  have cZ2 : Z.cell? ⟨w.heap.size + 1 + 1, 2, none⟩ = some (.int .i64 a) := blk_cell tT 2
  have cZ3 : Z.cell? ⟨w.heap.size + 1 + 1, 3, none⟩ = some (.int .i64 c) := blk_cell tT 3
  have cZ4 : Z.cell? ⟨w.heap.size + 1 + 1, 4, none⟩ = some (.int .i64 0) := blk_cell tT 4
  have cZ5 : Z.cell? ⟨w.heap.size + 1 + 1, 5, none⟩ = some (.int .i64 0) := blk_cell tT 5
  have cZ6 : Z.cell? ⟨w.heap.size + 1 + 1, 6, none⟩ = some (.slice Aa (regsOf f.R b ar).length ca) := blk_cell tT 6
  have cZ7 : Z.cell? ⟨w.heap.size + 1 + 1, 7, none⟩ = some (.slice Av (path.length + 1) cv) := blk_cell tT 7
  refine bodyPost_ret (v := .agg #[.int .i64 3, .int .i64 0, .int .i64 a, .int .i64 c, .int .i64 0, .int .i64 0, .slice Aa (regsOf f.R b ar).length ca, .slice Av (path.length + 1) cv]) ?_ rfl ⟨_, _, rfl, Kd.R_lower tA (by omega), Kd.R_lower tQ (by omega), tF, tk⟩
  simp [results, Try.results77 , go_sem, cZ0, cZ1, cZ2, cZ3, cZ4, cZ5, cZ6, cZ7]
end
section
variable (A : Option Addr) (cp : Nat) (p : List Fn) (bd dp : Int) (bf : Nat) (PA : Option Addr) (pc : Nat) (path : List Int) (f : Fr) (w : World)
  (hbf : w.heap[bf]? = some (.cells (FrB (.slice PA path.length pc) f) 80 (0, 0)))
  (hpath : Kd.C (Kd.int .i64) w PA path.length path) (hpl : path.length ≤ 1000) (hp : Kd.C (kFn 34) w A p.length p)
include hbf hpath hpl hp
set_option maxHeartbeats 800000 in
theorem future_any (op a : Int) (b c ar : Nat) (k : Int) (fc : Fn) (hf : p[c]? = some fc) (har : fc.ar = ar) (hb7 : b < 8) (hb : b + ar ≤ 8) (hd : ¬ dp ≤ (path.length : Int)) :
    Calls Try.prog 79 #[.agg #[.slice A p.length cp, .int .i64 bd, .int .i64 dp, .pointer (some ⟨bf, 0, none⟩)], .agg #[.int .i64 op, .int .i64 a, .int .i64 b, .int .i64 c, .int .i64 k]] w fun e w' =>
      ∃ av qv, e = .returned (effV 4 0 0 c a 0 av qv) ∧ Kd.R (Kd.int .i64) 2 w' w.heap.size (fun _ => True) av (regsOf f.R b ar) ∧ Kd.R (Kd.int .i64) 3 w' w.heap.size (fun _ => True) qv (path ++ [f.kids]) ∧
        w'.heap[bf]? = some (.cells (FrB (.slice PA path.length pc) { f with kids := wrap64 (f.kids + 1) }) 80 (0, 0)) ∧ Keep (fun x => x = bf) w w' := by
  have hlt : bf < w.heap.size := blk_lt hbf
  have HB := Aside0.mk hbf
  have HP := Aside0.mk hpath
  have HQ := Aside0.mk hp
  clear hbf hpath hp
  go_enter Try.func79, Try.ntmps79
  have tbf : ¬ w.heap.size + 1 + 1 = bf := by omega
  go_wp2_with (go_at_call 101; go_must (refine (begin_any A cp p bd dp bf PA pc path f _ (by have q := HB.out; (repeat (first | (with_reducible assumption) | (with_reducible refine heap_drew1 ?_) | (with_reducible refine heap_drewN1 ?_) | exact heap_at_alloc (by first | rfl | (simp; done) | (simp; omega)) | (with_reducible refine heap_lt_alloc ?_) | (refine heap_near ?_ (by first | rfl | (simp; done))) | (refine heap_far ?_ (by first | (simp; done) | (simp; omega))) | exact blk_below (by assumption) (by assumption)))) (Kd.C_below HP.out (by (repeat (first | exact Below.refl _ _ | (with_reducible assumption) | refine below_thenB ?_ (by assumption) | refine below_alloc ?_ _ | refine below_drew ?_ | refine pw_below_drewN ?_ _ | refine Below.setCell ?_ (by first | (simp; done) | omega | (simp; omega)) _)))) hpl (Kd.C_below HQ.out (by (repeat (first | exact Below.refl _ _ | (with_reducible assumption) | refine below_thenB ?_ (by assumption) | refine below_alloc ?_ _ | refine below_drew ?_ | refine pw_below_drewN ?_ _ | refine Below.setCell ?_ (by first | (simp; done) | omega | (simp; omega)) _)))) op a b c ar k fc hf har hb7 hb 4 0 a hd).mono ?_; rintro e w2 ⟨av, qv, rfl, hA, hQ, hF, hK⟩; (obtain ⟨Aa, ca, rfl⟩ := Kd.R_slice hA); (obtain ⟨Av, cv, rfl⟩ := Kd.R_slice hQ); (rw [show (path ++ [f.kids]).length = path.length + 1 by simp] at hQ ⊢); (have qT : w2.heap[w.heap.size + 1 + 1]? = some (.cells #[.int .i64 0, .int .i64 0, .int .i64 0, .int .i64 0, .int .i64 0, .int .i64 0, nilV, nilV] 60 (0, 0)) := hK.heap (by (repeat (first | (with_reducible assumption) | (with_reducible refine heap_drew1 ?_) | (with_reducible refine heap_drewN1 ?_) | exact heap_at_alloc (by first | rfl | (simp; done) | (simp; omega)) | (with_reducible refine heap_lt_alloc ?_) | (refine heap_near ?_ (by first | rfl | (simp; done))) | (refine heap_far ?_ (by first | (simp; done) | (simp; omega))) | exact blk_below (by assumption) (by assumption)))) tbf); (have cT := fun j => blk_cell qT j); (have zT : ∀ o, w2.frozen? ⟨w.heap.size + 1 + 1, o, none⟩ = false := fun o => by simp [World.frozen?, qT]); unfold effV))
  obtain ⟨Z, hZ⟩ : ∃ Z, Z = ((((((((w2.setCell ⟨w.heap.size + 1 + 1, 0, none⟩ (.int .i64 4)).setCell ⟨w.heap.size + 1 + 1, 1, none⟩ (.int .i64 0)).setCell ⟨w.heap.size + 1 + 1, 2, none⟩ (.int .i64 0)).setCell ⟨w.heap.size + 1 + 1, 3, none⟩ (.int .i64 c)).setCell ⟨w.heap.size + 1 + 1, 4, none⟩ (.int .i64 a)).setCell ⟨w.heap.size + 1 + 1, 5, none⟩ (.int .i64 0)).setCell ⟨w.heap.size + 1 + 1, 6, none⟩ (.slice Aa (regsOf f.R b ar).length ca)).setCell ⟨w.heap.size + 1 + 1, 7, none⟩ (.slice Av (path.length + 1) cv)) := ⟨_, rfl⟩
  rw [← hZ]
  have kA : Kd.R (Kd.int .i64) 2 w2 (w.heap.size + 1 + 1 + 1) (fun _ => True) (.slice Aa (regsOf f.R b ar).length ca) (regsOf f.R b ar) := Kd.R_lower hA (by simp)
  have kQ : Kd.R (Kd.int .i64) 3 w2 (w.heap.size + 1 + 1 + 1) (fun _ => True) (.slice Av (path.length + 1) cv) (path ++ [f.kids]) := Kd.R_lower hQ (by simp)
  have kK : Keep (fun x => x = bf) w w2 := Keep.trans (Keep.of_below _ (by (repeat (first | exact Below.refl _ _ | (with_reducible assumption) | refine below_thenB ?_ (by assumption) | refine below_alloc ?_ _ | refine below_drew ?_ | refine pw_below_drewN ?_ _ | refine Below.setCell ?_ (by first | (simp; done) | omega | (simp; omega)) _)))) hK
  have tT : Z.heap[w.heap.size + 1 + 1]? = some (.cells #[.int .i64 4, .int .i64 0, .int .i64 0, .int .i64 c, .int .i64 a, .int .i64 0, .slice Aa (regsOf f.R b ar).length ca, .slice Av (path.length + 1) cv] 60 (0, 0)) := by rw [hZ]; exact put8 qT
  have tF : Z.heap[bf]? = some (.cells (FrB (.slice PA path.length pc) { f with kids := wrap64 (f.kids + 1) }) 80 (0, 0)) := by rw [hZ]; exact heap_far (heap_far (heap_far (heap_far (heap_far (heap_far (heap_far (heap_far (hF) (by simp <;> omega)) (by simp <;> omega)) (by simp <;> omega)) (by simp <;> omega)) (by simp <;> omega)) (by simp <;> omega)) (by simp <;> omega)) (by simp <;> omega)
  have tA : Kd.R (Kd.int .i64) 2 Z (w.heap.size + 1 + 1 + 1) (fun _ => True) (.slice Aa (regsOf f.R b ar).length ca) (regsOf f.R b ar) := by rw [hZ]; exact R_set_below (R_set_below (R_set_below (R_set_below (R_set_below (R_set_below (R_set_below (R_set_below (kA) (by simp <;> omega) _) (by simp <;> omega) _) (by simp <;> omega) _) (by simp <;> omega) _) (by simp <;> omega) _) (by simp <;> omega) _) (by simp <;> omega) _) (by simp <;> omega) _
  have tQ : Kd.R (Kd.int .i64) 3 Z (w.heap.size + 1 + 1 + 1) (fun _ => True) (.slice Av (path.length + 1) cv) (path ++ [f.kids]) := by rw [hZ]; exact R_set_below (R_set_below (R_set_below (R_set_below (R_set_below (R_set_below (R_set_below (R_set_below (kQ) (by simp <;> omega) _) (by simp <;> omega) _) (by simp <;> omega) _) (by simp <;> omega) _) (by simp <;> omega) _) (by simp <;> omega) _) (by simp <;> omega) _) (by simp <;> omega) _
  have tg : w.heap.size ≤ w.heap.size + 1 + 1 := by omega
  have tk : Keep (fun x => x = bf) w Z := by rw [hZ]; exact keep8 (S := fun x => x = bf) kK (.inr tg) _ _ _ _ _ _ _ _
  clear hZ
  have cZ0 : Z.cell? ⟨w.heap.size + 1 + 1, 0, none⟩ = some (.int .i64 4) := blk_cell tT 0
  have cZ1 : Z.cell? ⟨w.heap.size + 1 + 1, 1, none⟩ = some (.int .i64 0) := blk_cell tT 1
  have cZ2 : Z.cell? ⟨w.heap.size + 1 + 1, 2, none⟩ = some (.int .i64 0) := blk_cell tT 2
  have cZ3 : Z.cell? ⟨w.heap.size + 1 + 1, 3, none⟩ = some (.int .i64 c) := blk_cell tT 3
  have cZ4 : Z.cell? ⟨w.heap.size + 1 + 1, 4, none⟩ = some (.int .i64 a) := blk_cell tT 4
  have cZ5 : Z.cell? ⟨w.heap.size + 1 + 1, 5, none⟩ = some (.int .i64 0) := blk_cell tT 5
  have cZ6 : Z.cell? ⟨w.heap.size + 1 + 1, 6, none⟩ = some (.slice Aa (regsOf f.R b ar).length ca) := blk_cell tT 6
  have cZ7 : Z.cell? ⟨w.heap.size + 1 + 1, 7, none⟩ = some (.slice Av (path.length + 1) cv) := blk_cell tT 7
  refine bodyPost_ret (v := .agg #[.int .i64 4, .int .i64 0, .int .i64 0, .int .i64 c, .int .i64 a, .int .i64 0, .slice Aa (regsOf f.R b ar).length ca, .slice Av (path.length + 1) cv]) ?_ rfl ⟨_, _, rfl, Kd.R_lower tA (by omega), Kd.R_lower tQ (by omega), tF, tk⟩
  simp [results, Try.results79 , go_sem, cZ0, cZ1, cZ2, cZ3, cZ4, cZ5, cZ6, cZ7]
end
end Go.Proofs.Ytimmglnbjgbbjaa
