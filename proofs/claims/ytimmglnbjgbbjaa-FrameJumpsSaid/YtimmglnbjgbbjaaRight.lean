/- May a program run with arguments and limits (eval.Right), with limits (frame.right). No conditions. -/
import Derived.Test.YtimmglnbjgbbjaaValid3
set_option linter.unusedSimpArgs false
set_option linter.unusedVariables false
namespace Go.Proofs.Ytimmglnbjgbbjaa
open Go.RowKit Go.Proofs.YtimmglnbjgbbjaaW.PrintWords
def limB (bd dp : Int) : Bool := decide (1 ≤ bd) && decide (bd ≤ 10000) && decide (0 ≤ dp) && decide (dp ≤ 30)
def rightB (p : List Fn) (n : Nat) (bd dp : Int) : Bool := progB p && limB bd dp && decide ((n : Int) = (p.getD 0 zFn).ar)
theorem prog_first {p : List Fn} (h : progB p = true) : ∃ f0, p[0]? = some f0 := by
  unfold progB at h
  simp only [Bool.and_eq_true, decide_eq_true_eq] at h
  exact ⟨_, List.getElem?_eq_getElem (by omega)⟩
set_option maxHeartbeats 800000 in
theorem right_any (A : Option Addr) (cp : Nat) (p : List Fn) (B : Option Addr) (n c : Nat) (bd dp : Int) (w : World) (hp : Kd.C (kFn 34) w A p.length p) :
    Calls Try.prog 48 #[.slice A p.length cp, .slice B n c, .agg #[.int .i64 bd, .int .i64 dp]] w fun e w' => e = .returned (.bool (rightB p n bd dp)) ∧ Below w.heap.size w w' := by
  have HP := Aside0.mk hp
  by_cases hP : progB p = false
  · have hr : rightB p n bd dp = false := by simp [rightB, hP]
    rw [hr]
    clear hp hr
    go_enter Try.func48, Try.ntmps48
    go_wp2_with (go_at_call 70; (refine (check_any A cp p _ (Kd.C_below HP.out (by (repeat (first | exact Below.refl _ _ | (with_reducible assumption) | refine below_thenB ?_ (by assumption) | refine below_alloc ?_ _ | refine below_drew ?_ | refine pw_below_drewN ?_ _ | refine Below.setCell ?_ (by first | (simp; done) | omega | (simp; omega)) _))))).mono ?_); rintro en w1 ⟨f, at_, e, rfl, he, hb⟩; (have hz : (e != 0) = true := by (rw [hP] at he; simpa using he)); clear he)
    go_ret
    exact ⟨rfl, by (repeat (first | exact Below.refl _ _ | (with_reducible assumption) | refine below_thenB ?_ (by assumption) | refine below_alloc ?_ _ | refine below_drew ?_ | refine pw_below_drewN ?_ _ | refine Below.setCell ?_ (by first | (simp; done) | omega | (simp; omega)) _))⟩
  have hP1 : progB p = true := by simpa using hP
  obtain ⟨f0, hf0⟩ := prog_first hP1
  by_cases h1 : bd < 1
  · have hr : rightB p n bd dp = false := by simp [rightB, limB]; omega
    rw [hr]
    have g1 : decide (bd < 1) = true := by simpa using h1
    clear hp hr hP
    go_enter Try.func48, Try.ntmps48
    go_wp2_with (go_at_call 70; (refine (check_any A cp p _ (Kd.C_below HP.out (by (repeat (first | exact Below.refl _ _ | (with_reducible assumption) | refine below_thenB ?_ (by assumption) | refine below_alloc ?_ _ | refine below_drew ?_ | refine pw_below_drewN ?_ _ | refine Below.setCell ?_ (by first | (simp; done) | omega | (simp; omega)) _))))).mono ?_); rintro en w1 ⟨f, at_, e, rfl, he, hb⟩; (obtain rfl : e = 0 := he.2 hP1); clear he; (have hL : w1.heap[w.heap.size]? = some (.cells #[.int .i64 bd, .int .i64 dp] 37 (0, 0)) := blk_below (heap_alloc_new _ _) hb); (have cL := fun j => blk_cell hL j))
    go_ret
    exact ⟨rfl, by (repeat (first | exact Below.refl _ _ | (with_reducible assumption) | refine below_thenB ?_ (by assumption) | refine below_alloc ?_ _ | refine below_drew ?_ | refine pw_below_drewN ?_ _ | refine Below.setCell ?_ (by first | (simp; done) | omega | (simp; omega)) _))⟩
  by_cases h2 : 10000 < bd
  · have hr : rightB p n bd dp = false := by simp [rightB, limB]; omega
    rw [hr]
    have g1 : decide (bd < 1) = false := by simpa using h1
    have g2 : decide (10000 < bd) = true := by simpa using h2
    clear hp hr hP
    go_enter Try.func48, Try.ntmps48
    go_wp2_with (go_at_call 70; (refine (check_any A cp p _ (Kd.C_below HP.out (by (repeat (first | exact Below.refl _ _ | (with_reducible assumption) | refine below_thenB ?_ (by assumption) | refine below_alloc ?_ _ | refine below_drew ?_ | refine pw_below_drewN ?_ _ | refine Below.setCell ?_ (by first | (simp; done) | omega | (simp; omega)) _))))).mono ?_); rintro en w1 ⟨f, at_, e, rfl, he, hb⟩; (obtain rfl : e = 0 := he.2 hP1); clear he; (have hL : w1.heap[w.heap.size]? = some (.cells #[.int .i64 bd, .int .i64 dp] 37 (0, 0)) := blk_below (heap_alloc_new _ _) hb); (have cL := fun j => blk_cell hL j))
    go_ret
    exact ⟨rfl, by (repeat (first | exact Below.refl _ _ | (with_reducible assumption) | refine below_thenB ?_ (by assumption) | refine below_alloc ?_ _ | refine below_drew ?_ | refine pw_below_drewN ?_ _ | refine Below.setCell ?_ (by first | (simp; done) | omega | (simp; omega)) _))⟩
  by_cases h3 : dp < 0
  · have hr : rightB p n bd dp = false := by simp [rightB, limB]; omega
    rw [hr]
    have g1 : decide (bd < 1) = false := by simpa using h1
    have g2 : decide (10000 < bd) = false := by simpa using h2
    have g3 : decide (dp < 0) = true := by simpa using h3
    clear hp hr hP
    go_enter Try.func48, Try.ntmps48
    go_wp2_with (go_at_call 70; (refine (check_any A cp p _ (Kd.C_below HP.out (by (repeat (first | exact Below.refl _ _ | (with_reducible assumption) | refine below_thenB ?_ (by assumption) | refine below_alloc ?_ _ | refine below_drew ?_ | refine pw_below_drewN ?_ _ | refine Below.setCell ?_ (by first | (simp; done) | omega | (simp; omega)) _))))).mono ?_); rintro en w1 ⟨f, at_, e, rfl, he, hb⟩; (obtain rfl : e = 0 := he.2 hP1); clear he; (have hL : w1.heap[w.heap.size]? = some (.cells #[.int .i64 bd, .int .i64 dp] 37 (0, 0)) := blk_below (heap_alloc_new _ _) hb); (have cL := fun j => blk_cell hL j))
    go_ret
    exact ⟨rfl, by (repeat (first | exact Below.refl _ _ | (with_reducible assumption) | refine below_thenB ?_ (by assumption) | refine below_alloc ?_ _ | refine below_drew ?_ | refine pw_below_drewN ?_ _ | refine Below.setCell ?_ (by first | (simp; done) | omega | (simp; omega)) _))⟩
  by_cases h4 : 30 < dp
  · have hr : rightB p n bd dp = false := by simp [rightB, limB]; omega
    rw [hr]
    have g1 : decide (bd < 1) = false := by simpa using h1
    have g2 : decide (10000 < bd) = false := by simpa using h2
    have g3 : decide (dp < 0) = false := by simpa using h3
    have g4 : decide (30 < dp) = true := by simpa using h4
    clear hp hr hP
    go_enter Try.func48, Try.ntmps48
    go_wp2_with (go_at_call 70; (refine (check_any A cp p _ (Kd.C_below HP.out (by (repeat (first | exact Below.refl _ _ | (with_reducible assumption) | refine below_thenB ?_ (by assumption) | refine below_alloc ?_ _ | refine below_drew ?_ | refine pw_below_drewN ?_ _ | refine Below.setCell ?_ (by first | (simp; done) | omega | (simp; omega)) _))))).mono ?_); rintro en w1 ⟨f, at_, e, rfl, he, hb⟩; (obtain rfl : e = 0 := he.2 hP1); clear he; (have hL : w1.heap[w.heap.size]? = some (.cells #[.int .i64 bd, .int .i64 dp] 37 (0, 0)) := blk_below (heap_alloc_new _ _) hb); (have cL := fun j => blk_cell hL j))
    go_ret
    exact ⟨rfl, by (repeat (first | exact Below.refl _ _ | (with_reducible assumption) | refine below_thenB ?_ (by assumption) | refine below_alloc ?_ _ | refine below_drew ?_ | refine pw_below_drewN ?_ _ | refine Below.setCell ?_ (by first | (simp; done) | omega | (simp; omega)) _))⟩
  have hl : limB bd dp = true := by simp [limB]; omega
  have hr : rightB p n bd dp = decide ((n : Int) = f0.ar) := by simp [rightB, hl, hP1, List.getD_eq_getElem?_getD, hf0]
  rw [hr]
  have g1 : decide (bd < 1) = false := by simpa using h1
  have g2 : decide (10000 < bd) = false := by simpa using h2
  have g3 : decide (dp < 0) = false := by simpa using h3
  have g4 : decide (30 < dp) = false := by simpa using h4
  obtain ⟨ad, A1, c1, rfl, hx0, hx1, hl1, hi1, hlt⟩ := at_fn hp 0 f0 hf0
  have HX := Aside0.mk hx0
  have hpl : (0 : Int) < (p.length : Int) := by have := (List.getElem?_eq_some_iff.1 hf0).1; omega
  clear hp hr hP hx0 hx1 hi1 hl hf0
  go_enter Try.func48, Try.ntmps48
  go_wp2_with (go_at_call 70; (refine (check_any (some ad) cp p _ (Kd.C_below HP.out (by (repeat (first | exact Below.refl _ _ | (with_reducible assumption) | refine below_thenB ?_ (by assumption) | refine below_alloc ?_ _ | refine below_drew ?_ | refine pw_below_drewN ?_ _ | refine Below.setCell ?_ (by first | (simp; done) | omega | (simp; omega)) _))))).mono ?_); rintro en w1 ⟨f, at_, e, rfl, he, hb⟩; (obtain rfl : e = 0 := he.2 hP1); clear he; (have hL : w1.heap[w.heap.size]? = some (.cells #[.int .i64 bd, .int .i64 dp] 37 (0, 0)) := blk_below (heap_alloc_new _ _) hb); (have cL := fun j => blk_cell hL j); (have hx : w1.cell? (ad.add (0 * 2)) = some (.int .i64 f0.ar) := by (have hbw : Below w.heap.size w w1 := by (repeat (first | exact Below.refl _ _ | (with_reducible assumption) | refine below_thenB ?_ (by assumption) | refine below_alloc ?_ _ | refine below_drew ?_ | refine pw_below_drewN ?_ _ | refine Below.setCell ?_ (by first | (simp; done) | omega | (simp; omega)) _))); exact (hbw.cell hlt).trans HX.out); (rw [Nat.zero_mul, Addr.add_zero'] at hx))
  go_ret
  exact ⟨rfl, by (repeat (first | exact Below.refl _ _ | (with_reducible assumption) | refine below_thenB ?_ (by assumption) | refine below_alloc ?_ _ | refine below_drew ?_ | refine pw_below_drewN ?_ _ | refine Below.setCell ?_ (by first | (simp; done) | omega | (simp; omega)) _))⟩
end Go.Proofs.Ytimmglnbjgbbjaa
