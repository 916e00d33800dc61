/- spawn and future of package frame, at the depth. No conditions. -/
import Derived.Test.YtimmglnbjgbbjaaFr4
set_option linter.unusedSimpArgs false
set_option linter.unusedVariables false
namespace Go.Proofs.Ytimmglnbjgbbjaa
open Go.RowKit Go.Proofs.YtimmglnbjgbbjaaW.PrintWords
section
variable (P : Value) (bd dp : Int) (bf : Nat) (PA : Option Addr) (pc n : Nat) (f : Fr) (w : World)
  (hbf : w.heap[bf]? = some (.cells (FrB (.slice PA n pc) f) 80 (0, 0)))
include hbf
set_option maxHeartbeats 800000 in
theorem spawn_deep (op a b c k : Int) (hd : dp ≤ (n : Int)) :
    Calls Try.prog 77 #[.agg #[P, .int .i64 bd, .int .i64 dp, .pointer (some ⟨bf, 0, none⟩)], .agg #[.int .i64 op, .int .i64 a, .int .i64 b, .int .i64 c, .int .i64 k]] w fun e w' =>
      e = .returned (effV 8 0 0 0 0 4 nilV nilV) ∧ w'.heap[bf]? = some (.cells (FrB (.slice PA n pc) f) 80 (0, 0)) ∧ Keep (fun x => x = bf) w w' := by
  have hlt : bf < w.heap.size := blk_lt hbf
  have HB := Aside0.mk hbf
  have tbf : ¬ w.heap.size + 1 + 1 = bf := by omega
  clear hbf
  go_enter Try.func77, Try.ntmps77
  go_wp2_with (go_at_call 101; go_must (refine (begin_deep P bd dp bf PA pc n f _ (by have q := HB.out; (repeat (first | (with_reducible assumption) | (with_reducible refine heap_drew1 ?_) | (with_reducible refine heap_drewN1 ?_) | exact heap_at_alloc (by first | rfl | (simp; done) | (simp; omega)) | (with_reducible refine heap_lt_alloc ?_) | (refine heap_near ?_ (by first | rfl | (simp; done))) | (refine heap_far ?_ (by first | (simp; done) | (simp; omega))) | exact blk_below (by assumption) (by assumption)))) op a b c k 3 a 0 hd).mono ?_; rintro e w2 ⟨rfl, hF, hK⟩; (have qT : w2.heap[w.heap.size + 1 + 1]? = some (.cells #[.int .i64 0, .int .i64 0, .int .i64 0, .int .i64 0, .int .i64 0, .int .i64 0, nilV, nilV] 60 (0, 0)) := hK.heap (by (repeat (first | (with_reducible assumption) | (with_reducible refine heap_drew1 ?_) | (with_reducible refine heap_drewN1 ?_) | exact heap_at_alloc (by first | rfl | (simp; done) | (simp; omega)) | (with_reducible refine heap_lt_alloc ?_) | (refine heap_near ?_ (by first | rfl | (simp; done))) | (refine heap_far ?_ (by first | (simp; done) | (simp; omega))) | exact blk_below (by assumption) (by assumption)))) tbf); (have cT := fun j => blk_cell qT j); (have zT : ∀ o, w2.frozen? ⟨w.heap.size + 1 + 1, o, none⟩ = false := fun o => by simp [World.frozen?, qT]); unfold effV))
  obtain ⟨Z, hZ⟩ : ∃ Z, Z = ((((((((w2.setCell ⟨w.heap.size + 1 + 1, 0, none⟩ (.int .i64 8)).setCell ⟨w.heap.size + 1 + 1, 1, none⟩ (.int .i64 0)).setCell ⟨w.heap.size + 1 + 1, 2, none⟩ (.int .i64 0)).setCell ⟨w.heap.size + 1 + 1, 3, none⟩ (.int .i64 0)).setCell ⟨w.heap.size + 1 + 1, 4, none⟩ (.int .i64 0)).setCell ⟨w.heap.size + 1 + 1, 5, none⟩ (.int .i64 4)).setCell ⟨w.heap.size + 1 + 1, 6, none⟩ (nilV)).setCell ⟨w.heap.size + 1 + 1, 7, none⟩ (nilV)) := ⟨_, rfl⟩
  rw [← hZ]
  have kK : Keep (fun x => x = bf) w w2 := Keep.trans (Keep.of_below _ (by (repeat (first | exact Below.refl _ _ | (with_reducible assumption) | refine below_thenB ?_ (by assumption) | refine below_alloc ?_ _ | refine below_drew ?_ | refine pw_below_drewN ?_ _ | refine Below.setCell ?_ (by first | (simp; done) | omega | (simp; omega)) _)))) hK
  have tT : Z.heap[w.heap.size + 1 + 1]? = some (.cells #[.int .i64 8, .int .i64 0, .int .i64 0, .int .i64 0, .int .i64 0, .int .i64 4, nilV, nilV] 60 (0, 0)) := by rw [hZ]; exact put8 qT
  have tF : Z.heap[bf]? = some (.cells (FrB (.slice PA n pc) f) 80 (0, 0)) := by rw [hZ]; exact heap_far (heap_far (heap_far (heap_far (heap_far (heap_far (heap_far (heap_far (hF) (by simp <;> omega)) (by simp <;> omega)) (by simp <;> omega)) (by simp <;> omega)) (by simp <;> omega)) (by simp <;> omega)) (by simp <;> omega)) (by simp <;> omega)
  have tg : w.heap.size ≤ w.heap.size + 1 + 1 := by omega
  have tk : Keep (fun x => x = bf) w Z := by rw [hZ]; exact keep8 (S := fun x => x = bf) kK (.inr tg) _ _ _ _ _ _ _ _
  clear hZ
  have cZ0 : Z.cell? ⟨w.heap.size + 1 + 1, 0, none⟩ = some (.int .i64 8) := blk_cell tT 0
  have cZ1 : Z.cell? ⟨w.heap.size + 1 + 1, 1, none⟩ = some (.int .i64 0) := blk_cell tT 1
  have cZ2 : Z.cell? ⟨w.heap.size + 1 + 1, 2, none⟩ = some (.int .i64 0) := blk_cell tT 2
  have cZ3 : Z.cell? ⟨w.heap.size + 1 + 1, 3, none⟩ = some (.int .i64 0) := blk_cell tT 3
  have cZ4 : Z.cell? ⟨w.heap.size + 1 + 1, 4, none⟩ = some (.int .i64 0) := blk_cell tT 4
  have cZ5 : Z.cell? ⟨w.heap.size + 1 + 1, 5, none⟩ = some (.int .i64 4) := blk_cell tT 5
  have cZ6 : Z.cell? ⟨w.heap.size + 1 + 1, 6, none⟩ = some (nilV) := blk_cell tT 6
  have cZ7 : Z.cell? ⟨w.heap.size + 1 + 1, 7, none⟩ = some (nilV) := blk_cell tT 7
  refine bodyPost_ret (v := .agg #[.int .i64 8, .int .i64 0, .int .i64 0, .int .i64 0, .int .i64 0, .int .i64 4, nilV, nilV]) ?_ rfl ⟨rfl, tF, tk⟩
  simp [results, Try.results77 , go_sem, cZ0, cZ1, cZ2, cZ3, cZ4, cZ5, cZ6, cZ7]
set_option maxHeartbeats 800000 in
theorem future_deep (op a b c k : Int) (hd : dp ≤ (n : Int)) :
    Calls Try.prog 79 #[.agg #[P, .int .i64 bd, .int .i64 dp, .pointer (some ⟨bf, 0, none⟩)], .agg #[.int .i64 op, .int .i64 a, .int .i64 b, .int .i64 c, .int .i64 k]] w fun e w' =>
      e = .returned (effV 8 0 0 0 0 4 nilV nilV) ∧ w'.heap[bf]? = some (.cells (FrB (.slice PA n pc) f) 80 (0, 0)) ∧ Keep (fun x => x = bf) w w' := by
  have hlt : bf < w.heap.size := blk_lt hbf
  have HB := Aside0.mk hbf
  have tbf : ¬ w.heap.size + 1 + 1 = bf := by omega
  clear hbf
  go_enter Try.func79, Try.ntmps79
  go_wp2_with (go_at_call 101; go_must (refine (begin_deep P bd dp bf PA pc n f _ (by have q := HB.out; (repeat (first | (with_reducible assumption) | (with_reducible refine heap_drew1 ?_) | (with_reducible refine heap_drewN1 ?_) | exact heap_at_alloc (by first | rfl | (simp; done) | (simp; omega)) | (with_reducible refine heap_lt_alloc ?_) | (refine heap_near ?_ (by first | rfl | (simp; done))) | (refine heap_far ?_ (by first | (simp; done) | (simp; omega))) | exact blk_below (by assumption) (by assumption)))) op a b c k 4 0 a hd).mono ?_; rintro e w2 ⟨rfl, hF, hK⟩; (have qT : w2.heap[w.heap.size + 1 + 1]? = some (.cells #[.int .i64 0, .int .i64 0, .int .i64 0, .int .i64 0, .int .i64 0, .int .i64 0, nilV, nilV] 60 (0, 0)) := hK.heap (by (repeat (first | (with_reducible assumption) | (with_reducible refine heap_drew1 ?_) | (with_reducible refine heap_drewN1 ?_) | exact heap_at_alloc (by first | rfl | (simp; done) | (simp; omega)) | (with_reducible refine heap_lt_alloc ?_) | (refine heap_near ?_ (by first | rfl | (simp; done))) | (refine heap_far ?_ (by first | (simp; done) | (simp; omega))) | exact blk_below (by assumption) (by assumption)))) tbf); (have cT := fun j => blk_cell qT j); (have zT : ∀ o, w2.frozen? ⟨w.heap.size + 1 + 1, o, none⟩ = false := fun o => by simp [World.frozen?, qT]); unfold effV))
  obtain ⟨Z, hZ⟩ : ∃ Z, Z = ((((((((w2.setCell ⟨w.heap.size + 1 + 1, 0, none⟩ (.int .i64 8)).setCell ⟨w.heap.size + 1 + 1, 1, none⟩ (.int .i64 0)).setCell ⟨w.heap.size + 1 + 1, 2, none⟩ (.int .i64 0)).setCell ⟨w.heap.size + 1 + 1, 3, none⟩ (.int .i64 0)).setCell ⟨w.heap.size + 1 + 1, 4, none⟩ (.int .i64 0)).setCell ⟨w.heap.size + 1 + 1, 5, none⟩ (.int .i64 4)).setCell ⟨w.heap.size + 1 + 1, 6, none⟩ (nilV)).setCell ⟨w.heap.size + 1 + 1, 7, none⟩ (nilV)) := ⟨_, rfl⟩
  rw [← hZ]
  have kK : Keep (fun x => x = bf) w w2 := Keep.trans (Keep.of_below _ (by (repeat (first | exact Below.refl _ _ | (with_reducible assumption) | refine below_thenB ?_ (by assumption) | refine below_alloc ?_ _ | refine below_drew ?_ | refine pw_below_drewN ?_ _ | refine Below.setCell ?_ (by first | (simp; done) | omega | (simp; omega)) _)))) hK
  have tT : Z.heap[w.heap.size + 1 + 1]? = some (.cells #[.int .i64 8, .int .i64 0, .int .i64 0, .int .i64 0, .int .i64 0, .int .i64 4, nilV, nilV] 60 (0, 0)) := by rw [hZ]; exact put8 qT
  have tF : Z.heap[bf]? = some (.cells (FrB (.slice PA n pc) f) 80 (0, 0)) := by rw [hZ]; exact heap_far (heap_far (heap_far (heap_far (heap_far (heap_far (heap_far (heap_far (hF) (by simp <;> omega)) (by simp <;> omega)) (by simp <;> omega)) (by simp <;> omega)) (by simp <;> omega)) (by simp <;> omega)) (by simp <;> omega)) (by simp <;> omega)
  have tg : w.heap.size ≤ w.heap.size + 1 + 1 := by omega
  have tk : Keep (fun x => x = bf) w Z := by rw [hZ]; exact keep8 (S := fun x => x = bf) kK (.inr tg) _ _ _ _ _ _ _ _
  clear hZ
  have cZ0 : Z.cell? ⟨w.heap.size + 1 + 1, 0, none⟩ = some (.int .i64 8) := blk_cell tT 0
  have cZ1 : Z.cell? ⟨w.heap.size + 1 + 1, 1, none⟩ = some (.int .i64 0) := blk_cell tT 1
  have cZ2 : Z.cell? ⟨w.heap.size + 1 + 1, 2, none⟩ = some (.int .i64 0) := blk_cell tT 2
  have cZ3 : Z.cell? ⟨w.heap.size + 1 + 1, 3, none⟩ = some (.int .i64 0) := blk_cell tT 3
  have cZ4 : Z.cell? ⟨w.heap.size + 1 + 1, 4, none⟩ = some (.int .i64 0) := blk_cell tT 4
  have cZ5 : Z.cell? ⟨w.heap.size + 1 + 1, 5, none⟩ = some (.int .i64 4) := blk_cell tT 5
  have cZ6 : Z.cell? ⟨w.heap.size + 1 + 1, 6, none⟩ = some (nilV) := blk_cell tT 6
  have cZ7 : Z.cell? ⟨w.heap.size + 1 + 1, 7, none⟩ = some (nilV) := blk_cell tT 7
  refine bodyPost_ret (v := .agg #[.int .i64 8, .int .i64 0, .int .i64 0, .int .i64 0, .int .i64 0, .int .i64 4, nilV, nilV]) ?_ rfl ⟨rfl, tF, tk⟩
  simp [results, Try.results79 , go_sem, cZ0, cZ1, cZ2, cZ3, cZ4, cZ5, cZ6, cZ7]
end
end Go.Proofs.Ytimmglnbjgbbjaa
