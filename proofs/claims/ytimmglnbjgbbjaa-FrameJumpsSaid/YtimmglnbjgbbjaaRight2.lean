/- May a program run with limits (frame.right). No conditions. -/
import Derived.Test.YtimmglnbjgbbjaaRight
import Derived.Deep.DeepMust
set_option linter.unusedSimpArgs false
set_option linter.unusedVariables false
namespace Go.Proofs.Ytimmglnbjgbbjaa
open Go.RowKit Go.Proofs.YtimmglnbjgbbjaaW.PrintWords
theorem prog_fn {p : List Fn} (h : progB p = true) (i : Nat) (g : Fn) (hg : p[i]? = some g) : fnB p g = true := by
  unfold progB at h
  simp only [Bool.and_eq_true, List.all_eq_true] at h
  exact h.2 g (List.mem_of_getElem? hg)
theorem info_i64 : (Try.prog.info? 2).map (fun i => (i.zero, i.size, i.bytes)) = some (some (.int .i64 0), 1, 8) := by kernel_rfl
set_option maxRecDepth 20000 in
set_option maxHeartbeats 1600000 in
theorem fright_any (A : Option Addr) (cp : Nat) (p : List Fn) (bd dp : Int) (w : World) (hp : Kd.C (kFn 34) w A p.length p) :
    Calls Try.prog 51 #[.slice A p.length cp, .agg #[.int .i64 bd, .int .i64 dp]] w fun e w' => e = .returned (.bool (progB p && limB bd dp)) ∧ Below w.heap.size w w' := by
  have HP := Aside0.mk hp
  by_cases hP : progB p = false
  · have hr : (progB p && limB bd dp) = false := by simp [hP]
    rw [hr]
    clear hp hr
    go_enter Try.func51, Try.ntmps51
    go_wp2_with (go_at_call 70; (refine (check_any A cp p _ (Kd.C_below HP.out (by (repeat (first | exact Below.refl _ _ | (with_reducible assumption) | refine below_thenB ?_ (by assumption) | refine below_alloc ?_ _ | refine below_drew ?_ | refine pw_below_drewN ?_ _ | refine Below.setCell ?_ (by first | (simp; done) | omega | (simp; omega)) _))))).mono ?_); rintro en w1 ⟨f, at_, e, rfl, he, hb⟩; (have hz : (e != 0) = true := by (rw [hP] at he; simpa using he)); clear he)
    go_ret
    exact ⟨rfl, by (repeat (first | exact Below.refl _ _ | (with_reducible assumption) | refine below_thenB ?_ (by assumption) | refine below_alloc ?_ _ | refine below_drew ?_ | refine pw_below_drewN ?_ _ | refine Below.setCell ?_ (by first | (simp; done) | omega | (simp; omega)) _))⟩
  have hP1 : progB p = true := by simpa using hP
  obtain ⟨f0, hf0⟩ := prog_first hP1
  have hfn := prog_fn hP1 0 f0 hf0
  have har : 0 ≤ f0.ar ∧ f0.ar ≤ 4 := by simp only [fnB, Bool.and_eq_true, decide_eq_true_eq] at hfn; omega
  have hR : ∀ k : Nat, f0.ar = k → rightB p k bd dp = (progB p && limB bd dp) := fun k hk => by simp [rightB, List.getD_eq_getElem?_getD, hf0, hk]
  obtain ⟨ad, A1, c1, rfl, hx0, hx1, hl1, hi1, hlt⟩ := at_fn hp 0 f0 hf0
  rw [Nat.zero_mul, Addr.add_zero'] at hx0 hlt
  have hpl : (0 : Int) < (p.length : Int) := by have := (List.getElem?_eq_some_iff.1 hf0).1; omega
  obtain ⟨ar, hae⟩ : ∃ ar, f0.ar = ar := ⟨_, rfl⟩
  rw [hae] at hx0
  have HX := Aside0.mk hx0
  have HR := Aside0.mk hR
  have HE := Aside0.mk hae
  rw [hae] at har
  clear hp hx0 hx1 hi1 hR hae hfn hf0 hP
  obtain ⟨k, rfl⟩ : ∃ k : Nat, ar = k := ⟨ar.toNat, by omega⟩
  have hmk : ∀ u : World, (Instr.makeSlice 26 (.int .i64 (k : Int)) (.int .i64 (k : Int))).run Try.prog u = .ok (.slice (some ⟨u.heap.size, 0, none⟩) k k) (u.alloc (.cells (madeCells #[.int .i64 0] k) 2)) := fun u => by
    obtain ⟨i0, hi, hz0, hz1, hz2⟩ := info_parts info_i64
    have h := run_make (P := Try.prog) u 26 2 i0 (.int .i64 0) Try.underlying26 hi hz0 .i64 .i64 (k : Int) (k : Int) (by omega) (Int.le_refl _) (by rw [hz2]; omega) (by omega)
    simpa [hz1, Value.cells] using h
  go_enter Try.func51, Try.ntmps51
  go_wp2_with (go_at_call 70; (refine (check_any (some ad) cp p _ (Kd.C_below HP.out (by (repeat (first | exact Below.refl _ _ | (with_reducible assumption) | refine below_thenB ?_ (by assumption) | refine below_alloc ?_ _ | refine below_drew ?_ | refine pw_below_drewN ?_ _ | refine Below.setCell ?_ (by first | (simp; done) | omega | (simp; omega)) _))))).mono ?_); rintro en w1 ⟨f, at_, e, rfl, he, hb⟩; (obtain rfl : e = 0 := he.2 hP1); clear he; (have hL : w1.heap[w.heap.size]? = some (.cells #[.int .i64 bd, .int .i64 dp] 37 (0, 0)) := blk_below (heap_alloc_new _ _) hb); (have cL := fun j => blk_cell hL j); (have lL := lt_of_block hL); (have hbw : Below w.heap.size w w1 := by (repeat (first | exact Below.refl _ _ | (with_reducible assumption) | refine below_thenB ?_ (by assumption) | refine below_alloc ?_ _ | refine below_drew ?_ | refine pw_below_drewN ?_ _ | refine Below.setCell ?_ (by first | (simp; done) | omega | (simp; omega)) _))); (have hx := (hbw.cell hlt).trans HX.out); (have hl2 : ad.block < w1.heap.size := by have := hbw.size; omega))
  refine plan_begin (fun _ => False) 9 9 rfl (by kernel_rfl) (fun hSk => ?_)
  (refine plan_q 0 rfl (by kernel_rfl) (by kernel_rfl) (by kernel_rfl) rfl rfl (fun _ _ _ _ h => h) hSk (by decide) (by kernel_rfl) (fun K hK => ?_); go_big_quiet_op; with_reducible refine hK _ ?_; clear hK K)
  (refine plan_q 1 rfl (by kernel_rfl) (by kernel_rfl) (by kernel_rfl) rfl rfl (fun _ _ _ _ h => h) hSk (by decide) (by kernel_rfl) (fun K hK => ?_); go_big_quiet_op; with_reducible refine hK _ ?_; clear hK K)
  (refine plan_q 2 rfl (by kernel_rfl) (by kernel_rfl) (by kernel_rfl) rfl rfl (fun _ _ _ _ h => h) hSk (by decide) (by kernel_rfl) (fun K hK => ?_); go_big_quiet_op; with_reducible refine hK _ ?_; clear hK K)
  (refine plan_q 3 rfl (by kernel_rfl) (by kernel_rfl) (by kernel_rfl) rfl rfl (fun _ _ _ _ h => h) hSk (by decide) (by kernel_rfl) (fun K hK => ?_); go_big_quiet_op; with_reducible refine hK _ ?_; clear hK K)
  (refine plan_q 4 rfl (by kernel_rfl) (by kernel_rfl) (by kernel_rfl) rfl rfl (fun _ _ _ _ h => h) hSk (by decide) (by kernel_rfl) (fun K hK => ?_); go_big_quiet_op; with_reducible refine hK _ ?_; clear hK K)
  (refine plan_q 6 rfl (by kernel_rfl) (by kernel_rfl) (by kernel_rfl) rfl rfl (fun _ _ _ _ h => h) hSk (by decide) (by kernel_rfl) (fun K hK => ?_); go_big_quiet_op; with_reducible refine hK _ ?_; clear hK K)
  (refine plan_l 5 rfl (by kernel_rfl) (fun K hK => ?_); go_wp2_with (go_at_call 48; go_must ((refine (right_any (some ad) cp p _ _ _ bd dp _ (Kd.C_below HP.out (by (repeat (first | exact Below.refl _ _ | (with_reducible assumption) | refine below_thenB ?_ (by assumption) | refine below_alloc ?_ _ | refine below_drew ?_ | refine pw_below_drewN ?_ _ | refine Below.setCell ?_ (by first | (simp; done) | omega | (simp; omega)) _))))).mono ?_); rintro e2 w2 ⟨rfl, hb2⟩; rw [HR.out k HE.out])); (try simp only [Exit.then]); (try simp only [Act.put, List.setIfInBounds_toArray, List.set_cons_succ, List.set_cons_zero]); refine hK _ _ (fun hz0 => by clear hz0 hSk; (repeat (first | with_reducible exact Keep.refl _ _ | (with_reducible refine Keep.left ?_) | (with_reducible refine Keep.leftN ?_) | (with_reducible assumption) | (with_reducible refine Keep.setCell ?_ ?hs _; case hs => (first | (exact .inl rfl) | (simp; done) | (right; omega) | (right; simp; omega))) | (with_reducible refine Keep.allocs ?_ (by simp; done) _) | (with_reducible refine Keep.alloc ?_ _) | (with_reducible refine Keep.drew ?_) | (with_reducible refine Keep.drewN ?_ _) | refine Keep.thenBelow ?_ (by assumption) | refine Keep.grown ?_ (by assumption) (by intro k hk; (first | (cases hk; done) | (exfalso; simp [Value.ownBlock] at hk; done) | (simp [Value.ownBlock] at hk; subst hk; (first | (right; simp; omega) | (left; first | rfl | simp)))) ) | refine Keep.trans ?_ (by assumption) | (with_reducible refine Keep.allocs ?_ (by simp; done) _) | refine Keep.alloc ?_ _ | refine Keep.drew ?_ | refine Keep.drewN ?_ _ | refine Keep.setCell ?_ (by first | (exact .inl rfl) | (simp; done) | (right; omega) | (right; simp; omega)) _))) (fun hSk1 => ?_); clear hK K hSk; replace hSk1 := hSk1 (by decide); have hSk := hSk1; clear hSk1)
  (refine plan_l 7 rfl (by kernel_rfl) (fun K hK => ?_); go_wp2_with (go_at_call 48; go_must ((refine (right_any (some ad) cp p _ _ _ bd dp _ (Kd.C_below HP.out (by (repeat (first | exact Below.refl _ _ | (with_reducible assumption) | refine below_thenB ?_ (by assumption) | refine below_alloc ?_ _ | refine below_drew ?_ | refine pw_below_drewN ?_ _ | refine Below.setCell ?_ (by first | (simp; done) | omega | (simp; omega)) _))))).mono ?_); rintro e2 w2 ⟨rfl, hb2⟩; rw [HR.out k HE.out])); (try simp only [Exit.then]); (try simp only [Act.put, List.setIfInBounds_toArray, List.set_cons_succ, List.set_cons_zero]); refine hK _ _ (fun hz0 => by clear hz0 hSk; (repeat (first | with_reducible exact Keep.refl _ _ | (with_reducible refine Keep.left ?_) | (with_reducible refine Keep.leftN ?_) | (with_reducible assumption) | (with_reducible refine Keep.setCell ?_ ?hs _; case hs => (first | (exact .inl rfl) | (simp; done) | (right; omega) | (right; simp; omega))) | (with_reducible refine Keep.allocs ?_ (by simp; done) _) | (with_reducible refine Keep.alloc ?_ _) | (with_reducible refine Keep.drew ?_) | (with_reducible refine Keep.drewN ?_ _) | refine Keep.thenBelow ?_ (by assumption) | refine Keep.grown ?_ (by assumption) (by intro k hk; (first | (cases hk; done) | (exfalso; simp [Value.ownBlock] at hk; done) | (simp [Value.ownBlock] at hk; subst hk; (first | (right; simp; omega) | (left; first | rfl | simp)))) ) | refine Keep.trans ?_ (by assumption) | (with_reducible refine Keep.allocs ?_ (by simp; done) _) | refine Keep.alloc ?_ _ | refine Keep.drew ?_ | refine Keep.drewN ?_ _ | refine Keep.setCell ?_ (by first | (exact .inl rfl) | (simp; done) | (right; omega) | (right; simp; omega)) _))) (fun hSk1 => ?_); clear hK K hSk; replace hSk1 := hSk1 (by decide); have hSk := hSk1; clear hSk1)
  (refine plan_q 8 rfl (by kernel_rfl) (by kernel_rfl) (by kernel_rfl) rfl rfl (fun _ _ _ _ h => h) hSk (by decide) (by kernel_rfl) (fun K hK => ?_); go_big_quiet_op; with_reducible refine hK _ ?_; clear hK K)
  refine plan_e (by kernel_rfl) ?_
  clear hSk
  go_wp2
  go_ret
  exact ⟨by rw [hP1]; rfl, by (repeat (first | exact Below.refl _ _ | (with_reducible assumption) | refine below_thenB ?_ (by assumption) | refine below_alloc ?_ _ | refine below_drew ?_ | refine pw_below_drewN ?_ _ | refine Below.setCell ?_ (by first | (simp; done) | omega | (simp; omega)) _))⟩
end Go.Proofs.Ytimmglnbjgbbjaa
