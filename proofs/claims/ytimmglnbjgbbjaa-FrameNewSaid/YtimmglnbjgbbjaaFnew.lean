/- The law FrameNew, walked. No conditions. -/
import Derived.Test.YtimmglnbjgbbjaaNew
import Derived.Test.YtimmglnbjgbbjaaAlike
import Derived.Test.YtimmglnbjgbbjaaAwake
set_option linter.unusedSimpArgs false
set_option linter.unusedVariables false
namespace Go.Proofs.Ytimmglnbjgbbjaa
open Go.RowKit Go.Proofs.YtimmglnbjgbbjaaW.PrintWords
/-- The first k registers hold arguments. -/
def regsK (args : List Int) (k : Nat) : Nat → Int := fun i => if i < k then args[i]?.getD 0 else 0
theorem regsK_zero (args : List Int) : regsK args 0 = fun _ => 0 := by funext i; simp [regsK]
theorem regsK_succ (args : List Int) (k : Nat) (v : Int) (h : args[k]? = some v) : upd (regsK args k) k v = regsK args (k + 1) := by
  funext i
  simp only [upd, regsK]
  by_cases e : i = k
  · subst e; simp [h]
  · simp [e, show (i < k + 1) = (i < k) by simp; omega]
theorem FrB_regsK (pv : Value) (fn : Int) (args : List Int) (k : Nat) (H : Nat → Int) (h : 8 ≤ k ∨ args.length ≤ k) : FrB pv ⟨fn, 0, 0, 0, regsK args k, H⟩ = FrB pv ⟨fn, 0, 0, 0, regs0 args, H⟩ := by
  have e : ∀ i, i < 8 → regsK args k i = regs0 args i := fun i hi => by
    simp only [regsK, regs0]
    by_cases hik : i < k
    · rw [if_pos hik]
    · rw [if_neg hik, List.getElem?_eq_none (by omega)]; rfl
  simp only [FrB, e 0 (by omega), e 1 (by omega), e 2 (by omega), e 3 (by omega), e 4 (by omega), e 5 (by omega), e 6 (by omega), e 7 (by omega)]
set_option maxRecDepth 20000 in
set_option maxHeartbeats 1600000 in
theorem fnew_early (hcmp : CmpOk) (fn : Int) (PA : Option Addr) (pc : Nat) (path : List Int) (GA : Option Addr) (gc : Nat) (args : List Int) (H : Nat → Int) (w : World) (hp : Kd.C (Kd.int .i64) w PA path.length path) (hpc : path.length ≤ pc) (hg : Kd.C (Kd.int .i64) w GA args.length args) (hh : 50 < path.length ∨ 50 < args.length) :
    Calls Try.prog 8 #[.agg #[.int .i64 fn, .slice PA path.length pc, .slice GA args.length gc, .int .i64 (H 0), .int .i64 (H 1), .int .i64 (H 2), .int .i64 (H 3)]] w fun e w' => e = .returned (.bool true) ∧ Below w.heap.size w w' := by
  have hpl := hp.2.1
  have hgl := hg.2.1
  have HP := Aside0.mk hp
  have HG := Aside0.mk hg
  clear hp hg
  by_cases h1 : 50 < path.length
  · have g1 : decide ((50 : Int) < (path.length : Int)) = true := by simp; omega
    go_enter Try.func8, Try.ntmps8
    go_wp2_with fail
    refine plan_begin (fun _ => False) 12 13 rfl (by kernel_rfl) (fun hSk => ?_)
    (refine plan_q 0 rfl (by kernel_rfl) (by kernel_rfl) (by kernel_rfl) rfl rfl (fun _ _ _ _ h => h) hSk (by decide) (by kernel_rfl) (fun K hK => ?_); go_big_quiet_op; with_reducible refine hK _ ?_; clear hK K)
    (refine plan_q 1 rfl (by kernel_rfl) (by kernel_rfl) (by kernel_rfl) rfl rfl (fun _ _ _ _ h => h) hSk (by decide) (by kernel_rfl) (fun K hK => ?_); go_big_quiet_op; with_reducible refine hK _ ?_; clear hK K)
    (refine plan_q 2 rfl (by kernel_rfl) (by kernel_rfl) (by kernel_rfl) rfl rfl (fun _ _ _ _ h => h) hSk (by decide) (by kernel_rfl) (fun K hK => ?_); go_big_quiet_op; with_reducible refine hK _ ?_; clear hK K)
    (refine plan_q 3 rfl (by kernel_rfl) (by kernel_rfl) (by kernel_rfl) rfl rfl (fun _ _ _ _ h => h) hSk (by decide) (by kernel_rfl) (fun K hK => ?_); go_big_quiet_op; with_reducible refine hK _ ?_; clear hK K)
    (refine plan_q 4 rfl (by kernel_rfl) (by kernel_rfl) (by kernel_rfl) rfl rfl (fun _ _ _ _ h => h) hSk (by decide) (by kernel_rfl) (fun K hK => ?_); go_big_quiet_op; with_reducible refine hK _ ?_; clear hK K)
    (refine plan_q 5 rfl (by kernel_rfl) (by kernel_rfl) (by kernel_rfl) rfl rfl (fun _ _ _ _ h => h) hSk (by decide) (by kernel_rfl) (fun K hK => ?_); go_big_quiet_op; with_reducible refine hK _ ?_; clear hK K)
    (refine plan_q 6 rfl (by kernel_rfl) (by kernel_rfl) (by kernel_rfl) rfl rfl (fun _ _ _ _ h => h) hSk (by decide) (by kernel_rfl) (fun K hK => ?_); go_big_quiet_op; with_reducible refine hK _ ?_; clear hK K)
    (refine plan_q 7 rfl (by kernel_rfl) (by kernel_rfl) (by kernel_rfl) rfl rfl (fun _ _ _ _ h => h) hSk (by decide) (by kernel_rfl) (fun K hK => ?_); go_big_quiet_op; with_reducible refine hK _ ?_; clear hK K)
    (refine plan_l 8 rfl (by kernel_rfl) (fun K hK => ?_); go_wp2_with (fail); (try simp only [Exit.then]); (try simp only [Act.put, List.setIfInBounds_toArray, List.set_cons_succ, List.set_cons_zero]); refine hK _ _ (fun hz0 => by clear hz0 hSk; (repeat (first | with_reducible exact Keep.refl _ _ | (with_reducible refine Keep.left ?_) | (with_reducible refine Keep.leftN ?_) | (with_reducible assumption) | (with_reducible refine Keep.setCell ?_ ?hs _; case hs => (first | (exact .inl rfl) | (simp; done) | (right; omega) | (right; simp; omega))) | (with_reducible refine Keep.allocs ?_ (by simp; done) _) | (with_reducible refine Keep.alloc ?_ _) | (with_reducible refine Keep.drew ?_) | (with_reducible refine Keep.drewN ?_ _) | refine Keep.thenBelow ?_ (by assumption) | refine Keep.grown ?_ (by assumption) (by intro k hk; (first | (cases hk; done) | (exfalso; simp [Value.ownBlock] at hk; done) | (simp [Value.ownBlock] at hk; subst hk; (first | (right; simp; omega) | (left; first | rfl | simp)))) ) | refine Keep.trans ?_ (by assumption) | (with_reducible refine Keep.allocs ?_ (by simp; done) _) | refine Keep.alloc ?_ _ | refine Keep.drew ?_ | refine Keep.drewN ?_ _ | refine Keep.setCell ?_ (by first | (exact .inl rfl) | (simp; done) | (right; omega) | (right; simp; omega)) _))) (fun hSk1 => ?_); clear hK K hSk; replace hSk1 := hSk1 (by decide); have hSk := hSk1; clear hSk1)
    (refine plan_q 9 rfl (by kernel_rfl) (by kernel_rfl) (by kernel_rfl) rfl rfl (fun _ _ _ _ h => h) hSk (by decide) (by kernel_rfl) (fun K hK => ?_); go_big_quiet_op; with_reducible refine hK _ ?_; clear hK K)
    (refine plan_q 10 rfl (by kernel_rfl) (by kernel_rfl) (by kernel_rfl) rfl rfl (fun _ _ _ _ h => h) hSk (by decide) (by kernel_rfl) (fun K hK => ?_); go_big_quiet_op; with_reducible refine hK _ ?_; clear hK K)
    (refine plan_q 11 rfl (by kernel_rfl) (by kernel_rfl) (by kernel_rfl) rfl rfl (fun _ _ _ _ h => h) hSk (by decide) (by kernel_rfl) (fun K hK => ?_); go_big_quiet_op; with_reducible refine hK _ ?_; clear hK K)
    (refine plan_l 12 rfl (by kernel_rfl) (fun K hK => ?_); go_wp2_with (fail); (try simp only [Exit.then]); (try simp only [Act.put, List.setIfInBounds_toArray, List.set_cons_succ, List.set_cons_zero]); refine hK _ _ (fun hz0 => by exact absurd rfl hz0) (fun hSk1 => ?_); clear hK K hSk)
    refine plan_e (by kernel_rfl) ?_
    clear hSk1
    go_wp2_with fail
    go_ret
    exact ⟨rfl, by (repeat (first | exact Below.refl _ _ | (with_reducible assumption) | refine below_thenB ?_ (by assumption) | refine below_alloc ?_ _ | refine below_drew ?_ | refine pw_below_drewN ?_ _ | refine Below.setCell ?_ (by first | (simp; done) | omega | (simp; omega)) _))⟩
  by_cases h2 : 50 < args.length
  · have g1 : decide ((50 : Int) < (path.length : Int)) = false := by simp; omega
    have g2 : decide ((50 : Int) < (args.length : Int)) = true := by simp; omega
    go_enter Try.func8, Try.ntmps8
    go_wp2_with fail
    refine plan_begin (fun _ => False) 12 13 rfl (by kernel_rfl) (fun hSk => ?_)
    (refine plan_q 0 rfl (by kernel_rfl) (by kernel_rfl) (by kernel_rfl) rfl rfl (fun _ _ _ _ h => h) hSk (by decide) (by kernel_rfl) (fun K hK => ?_); go_big_quiet_op; with_reducible refine hK _ ?_; clear hK K)
    (refine plan_q 1 rfl (by kernel_rfl) (by kernel_rfl) (by kernel_rfl) rfl rfl (fun _ _ _ _ h => h) hSk (by decide) (by kernel_rfl) (fun K hK => ?_); go_big_quiet_op; with_reducible refine hK _ ?_; clear hK K)
    (refine plan_q 2 rfl (by kernel_rfl) (by kernel_rfl) (by kernel_rfl) rfl rfl (fun _ _ _ _ h => h) hSk (by decide) (by kernel_rfl) (fun K hK => ?_); go_big_quiet_op; with_reducible refine hK _ ?_; clear hK K)
    (refine plan_q 3 rfl (by kernel_rfl) (by kernel_rfl) (by kernel_rfl) rfl rfl (fun _ _ _ _ h => h) hSk (by decide) (by kernel_rfl) (fun K hK => ?_); go_big_quiet_op; with_reducible refine hK _ ?_; clear hK K)
    (refine plan_q 4 rfl (by kernel_rfl) (by kernel_rfl) (by kernel_rfl) rfl rfl (fun _ _ _ _ h => h) hSk (by decide) (by kernel_rfl) (fun K hK => ?_); go_big_quiet_op; with_reducible refine hK _ ?_; clear hK K)
    (refine plan_q 5 rfl (by kernel_rfl) (by kernel_rfl) (by kernel_rfl) rfl rfl (fun _ _ _ _ h => h) hSk (by decide) (by kernel_rfl) (fun K hK => ?_); go_big_quiet_op; with_reducible refine hK _ ?_; clear hK K)
    (refine plan_q 6 rfl (by kernel_rfl) (by kernel_rfl) (by kernel_rfl) rfl rfl (fun _ _ _ _ h => h) hSk (by decide) (by kernel_rfl) (fun K hK => ?_); go_big_quiet_op; with_reducible refine hK _ ?_; clear hK K)
    (refine plan_q 7 rfl (by kernel_rfl) (by kernel_rfl) (by kernel_rfl) rfl rfl (fun _ _ _ _ h => h) hSk (by decide) (by kernel_rfl) (fun K hK => ?_); go_big_quiet_op; with_reducible refine hK _ ?_; clear hK K)
    (refine plan_l 8 rfl (by kernel_rfl) (fun K hK => ?_); go_wp2_with (fail); (try simp only [Exit.then]); (try simp only [Act.put, List.setIfInBounds_toArray, List.set_cons_succ, List.set_cons_zero]); refine hK _ _ (fun hz0 => by clear hz0 hSk; (repeat (first | with_reducible exact Keep.refl _ _ | (with_reducible refine Keep.left ?_) | (with_reducible refine Keep.leftN ?_) | (with_reducible assumption) | (with_reducible refine Keep.setCell ?_ ?hs _; case hs => (first | (exact .inl rfl) | (simp; done) | (right; omega) | (right; simp; omega))) | (with_reducible refine Keep.allocs ?_ (by simp; done) _) | (with_reducible refine Keep.alloc ?_ _) | (with_reducible refine Keep.drew ?_) | (with_reducible refine Keep.drewN ?_ _) | refine Keep.thenBelow ?_ (by assumption) | refine Keep.grown ?_ (by assumption) (by intro k hk; (first | (cases hk; done) | (exfalso; simp [Value.ownBlock] at hk; done) | (simp [Value.ownBlock] at hk; subst hk; (first | (right; simp; omega) | (left; first | rfl | simp)))) ) | refine Keep.trans ?_ (by assumption) | (with_reducible refine Keep.allocs ?_ (by simp; done) _) | refine Keep.alloc ?_ _ | refine Keep.drew ?_ | refine Keep.drewN ?_ _ | refine Keep.setCell ?_ (by first | (exact .inl rfl) | (simp; done) | (right; omega) | (right; simp; omega)) _))) (fun hSk1 => ?_); clear hK K hSk; replace hSk1 := hSk1 (by decide); have hSk := hSk1; clear hSk1)
    (refine plan_q 9 rfl (by kernel_rfl) (by kernel_rfl) (by kernel_rfl) rfl rfl (fun _ _ _ _ h => h) hSk (by decide) (by kernel_rfl) (fun K hK => ?_); go_big_quiet_op; with_reducible refine hK _ ?_; clear hK K)
    (refine plan_q 10 rfl (by kernel_rfl) (by kernel_rfl) (by kernel_rfl) rfl rfl (fun _ _ _ _ h => h) hSk (by decide) (by kernel_rfl) (fun K hK => ?_); go_big_quiet_op; with_reducible refine hK _ ?_; clear hK K)
    (refine plan_q 11 rfl (by kernel_rfl) (by kernel_rfl) (by kernel_rfl) rfl rfl (fun _ _ _ _ h => h) hSk (by decide) (by kernel_rfl) (fun K hK => ?_); go_big_quiet_op; with_reducible refine hK _ ?_; clear hK K)
    (refine plan_l 12 rfl (by kernel_rfl) (fun K hK => ?_); go_wp2_with (fail); (try simp only [Exit.then]); (try simp only [Act.put, List.setIfInBounds_toArray, List.set_cons_succ, List.set_cons_zero]); refine hK _ _ (fun hz0 => by exact absurd rfl hz0) (fun hSk1 => ?_); clear hK K hSk)
    refine plan_e (by kernel_rfl) ?_
    clear hSk1
    go_wp2_with fail
    go_ret
    exact ⟨rfl, by (repeat (first | exact Below.refl _ _ | (with_reducible assumption) | refine below_thenB ?_ (by assumption) | refine below_alloc ?_ _ | refine below_drew ?_ | refine pw_below_drewN ?_ _ | refine Below.setCell ?_ (by first | (simp; done) | omega | (simp; omega)) _))⟩
  omega
set_option maxRecDepth 20000 in
set_option maxHeartbeats 1600000 in
theorem fnew_many (hcmp : CmpOk) (fn : Int) (PA : Option Addr) (pc : Nat) (path : List Int) (GA : Option Addr) (gc : Nat) (args : List Int) (H : Nat → Int) (w : World) (hp : Kd.C (Kd.int .i64) w PA path.length path) (hpc : path.length ≤ pc) (hg : Kd.C (Kd.int .i64) w GA args.length args) (h1 : ¬ 50 < path.length) (h2 : ¬ 50 < args.length) (h3 : 8 < args.length) :
    Calls Try.prog 8 #[.agg #[.int .i64 fn, .slice PA path.length pc, .slice GA args.length gc, .int .i64 (H 0), .int .i64 (H 1), .int .i64 (H 2), .int .i64 (H 3)]] w fun e w' => e = .returned (.bool true) ∧ Below w.heap.size w w' := by
  have hpl := hp.2.1
  have hgl := hg.2.1
  have HP := Aside0.mk hp
  have HG := Aside0.mk hg
  clear hp hg
  have g1 : decide ((50 : Int) < (path.length : Int)) = false := by simp; omega
  have g2 : decide ((50 : Int) < (args.length : Int)) = false := by simp; omega
  go_enter Try.func8, Try.ntmps8
  go_wp2_with fail
  refine plan_begin (fun _ => False) 12 13 rfl (by kernel_rfl) (fun hSk => ?_)
  (refine plan_q 0 rfl (by kernel_rfl) (by kernel_rfl) (by kernel_rfl) rfl rfl (fun _ _ _ _ h => h) hSk (by decide) (by kernel_rfl) (fun K hK => ?_); go_big_quiet_op; with_reducible refine hK _ ?_; clear hK K)
  (refine plan_q 1 rfl (by kernel_rfl) (by kernel_rfl) (by kernel_rfl) rfl rfl (fun _ _ _ _ h => h) hSk (by decide) (by kernel_rfl) (fun K hK => ?_); go_big_quiet_op; with_reducible refine hK _ ?_; clear hK K)
  (refine plan_q 2 rfl (by kernel_rfl) (by kernel_rfl) (by kernel_rfl) rfl rfl (fun _ _ _ _ h => h) hSk (by decide) (by kernel_rfl) (fun K hK => ?_); go_big_quiet_op; with_reducible refine hK _ ?_; clear hK K)
  (refine plan_q 3 rfl (by kernel_rfl) (by kernel_rfl) (by kernel_rfl) rfl rfl (fun _ _ _ _ h => h) hSk (by decide) (by kernel_rfl) (fun K hK => ?_); go_big_quiet_op; with_reducible refine hK _ ?_; clear hK K)
  (refine plan_q 4 rfl (by kernel_rfl) (by kernel_rfl) (by kernel_rfl) rfl rfl (fun _ _ _ _ h => h) hSk (by decide) (by kernel_rfl) (fun K hK => ?_); go_big_quiet_op; with_reducible refine hK _ ?_; clear hK K)
  (refine plan_q 5 rfl (by kernel_rfl) (by kernel_rfl) (by kernel_rfl) rfl rfl (fun _ _ _ _ h => h) hSk (by decide) (by kernel_rfl) (fun K hK => ?_); go_big_quiet_op; with_reducible refine hK _ ?_; clear hK K)
  (refine plan_q 6 rfl (by kernel_rfl) (by kernel_rfl) (by kernel_rfl) rfl rfl (fun _ _ _ _ h => h) hSk (by decide) (by kernel_rfl) (fun K hK => ?_); go_big_quiet_op; with_reducible refine hK _ ?_; clear hK K)
  (refine plan_q 7 rfl (by kernel_rfl) (by kernel_rfl) (by kernel_rfl) rfl rfl (fun _ _ _ _ h => h) hSk (by decide) (by kernel_rfl) (fun K hK => ?_); go_big_quiet_op; with_reducible refine hK _ ?_; clear hK K)
  (refine plan_l 8 rfl (by kernel_rfl) (fun K hK => ?_); go_wp2_with (fail); (try simp only [Exit.then]); (try simp only [Act.put, List.setIfInBounds_toArray, List.set_cons_succ, List.set_cons_zero]); refine hK _ _ (fun hz0 => by clear hz0 hSk; (repeat (first | with_reducible exact Keep.refl _ _ | (with_reducible refine Keep.left ?_) | (with_reducible refine Keep.leftN ?_) | (with_reducible assumption) | (with_reducible refine Keep.setCell ?_ ?hs _; case hs => (first | (exact .inl rfl) | (simp; done) | (right; omega) | (right; simp; omega))) | (with_reducible refine Keep.allocs ?_ (by simp; done) _) | (with_reducible refine Keep.alloc ?_ _) | (with_reducible refine Keep.drew ?_) | (with_reducible refine Keep.drewN ?_ _) | refine Keep.thenBelow ?_ (by assumption) | refine Keep.grown ?_ (by assumption) (by intro k hk; (first | (cases hk; done) | (exfalso; simp [Value.ownBlock] at hk; done) | (simp [Value.ownBlock] at hk; subst hk; (first | (right; simp; omega) | (left; first | rfl | simp)))) ) | refine Keep.trans ?_ (by assumption) | (with_reducible refine Keep.allocs ?_ (by simp; done) _) | refine Keep.alloc ?_ _ | refine Keep.drew ?_ | refine Keep.drewN ?_ _ | refine Keep.setCell ?_ (by first | (exact .inl rfl) | (simp; done) | (right; omega) | (right; simp; omega)) _))) (fun hSk1 => ?_); clear hK K hSk; replace hSk1 := hSk1 (by decide); have hSk := hSk1; clear hSk1)
  (refine plan_q 9 rfl (by kernel_rfl) (by kernel_rfl) (by kernel_rfl) rfl rfl (fun _ _ _ _ h => h) hSk (by decide) (by kernel_rfl) (fun K hK => ?_); go_big_quiet_op; with_reducible refine hK _ ?_; clear hK K)
  (refine plan_q 10 rfl (by kernel_rfl) (by kernel_rfl) (by kernel_rfl) rfl rfl (fun _ _ _ _ h => h) hSk (by decide) (by kernel_rfl) (fun K hK => ?_); go_big_quiet_op; with_reducible refine hK _ ?_; clear hK K)
  (refine plan_q 11 rfl (by kernel_rfl) (by kernel_rfl) (by kernel_rfl) rfl rfl (fun _ _ _ _ h => h) hSk (by decide) (by kernel_rfl) (fun K hK => ?_); go_big_quiet_op; with_reducible refine hK _ ?_; clear hK K)
  (refine plan_l 12 rfl (by kernel_rfl) (fun K hK => ?_); go_wp2_with (fail); (try simp only [Exit.then]); (try simp only [Act.put, List.setIfInBounds_toArray, List.set_cons_succ, List.set_cons_zero]); refine hK _ _ (fun hz0 => by exact absurd rfl hz0) (fun hSk1 => ?_); clear hK K hSk)
  refine plan_e (by kernel_rfl) ?_
  clear hSk1
  go_wp2_with (at_builtin; go_must (refine Kd.R_append_rows (Kd.int .i64) w.heap.size (by rfl) _ _ 38 3 (.int .i64 0) 8 (by rfl) Try.underlying38 info_clone (by rfl) (by decide) (by decide) (.slice (some ⟨w.heap.size + 1 + 1, 0, none⟩) 0 0) [] path PA path.length pc (fun _ => True) (fun _ => False) (by rfl) (by rfl) (by have h := made_nil (w := (w.alloc (.cells #[.int .i64 fn, .slice PA path.length pc, .slice GA args.length gc, .int .i64 (H 0), .int .i64 (H 1), .int .i64 (H 2), .int .i64 (H 3)] 76)).alloc (.cells #[.int .i64 (H 0), .int .i64 (H 1), .int .i64 (H 2), .int .i64 (H 3)] 50)) (e := 3) trivial; have h := Kd.R_lower (base' := w.heap.size) h (by simp <;> omega); first | simpa using h | simpa using Kd.R_drew h) (Kd.C_below HP.out (by (repeat (first | exact Below.refl _ _ | (with_reducible assumption) | refine below_thenB ?_ (by assumption) | refine below_alloc ?_ _ | refine below_drew ?_ | refine pw_below_drewN ?_ _ | refine Below.setCell ?_ (by first | (simp; done) | omega | (simp; omega)) _)))) (fun _ _ h => h) (fun _ h => h.elim) (fun _ _ => trivial) (w0 := w) (by (repeat (first | exact Below.refl _ _ | (with_reducible assumption) | refine below_thenB ?_ (by assumption) | refine below_alloc ?_ _ | refine below_drew ?_ | refine pw_below_drewN ?_ _ | refine Below.setCell ?_ (by first | (simp; done) | omega | (simp; omega)) _))) (by simp <;> omega) (by simp; omega) ?_; intro v1 w1 hR1 hB1 hG1 hO1; rw [List.nil_append] at hR1; (obtain ⟨QA, qc, rfl⟩ := Kd.R_slice hR1); (have hH : w1.heap[w.heap.size + 1]? = some (.cells #[.int .i64 (H 0), .int .i64 (H 1), .int .i64 (H 2), .int .i64 (H 3)] 50 (0, 0)) := (hG1.block _ (by simp <;> omega) (by simp [Value.ownBlock])).trans (by (repeat (first | (with_reducible assumption) | (with_reducible refine heap_drew1 ?_) | (with_reducible refine heap_drewN1 ?_) | exact heap_at_alloc (by first | rfl | (simp; done) | (simp; omega)) | (with_reducible refine heap_lt_alloc ?_) | (refine heap_near ?_ (by first | rfl | (simp; done))) | (refine heap_far ?_ (by first | (simp; done) | (simp; omega))) | exact blk_below (by assumption) (by assumption))))); (have cH := fun j => blk_cell hH j); (have lH := blk_lt hH)))
  obtain ⟨g, hgo, hg0, hg1⟩ : ∃ g, (0 < path.length → QA = some ⟨g, 0, none⟩) ∧ w.heap.size ≤ g ∧ g < w1.heap.size := by
    by_cases h0 : 0 < path.length
    · obtain ⟨g, cap, he, hb, hl, -⟩ := Kd.R_form hR1 h0
      simp only [Value.slice.injEq] at he
      exact ⟨g, fun _ => he.1, hb, hl⟩
    · exact ⟨w.heap.size, fun h => absurd h h0, Nat.le_refl _, by omega⟩
  refine (new_any fn QA qc path GA gc args H _ (Kd.F_now (Kd.R_F hR1)) (by omega) (Kd.C_below HG.out hB1)).mono ?_
  rintro e w2 ⟨b, NA, nc, rfl, hb, hF, hRn, hB2⟩
  have hH2 := blk_below hH hB2
  have lH2 := blk_lt hH2
  have cH := fun j => blk_cell hH2 j
  have hR2 : Kd.R (Kd.int .i64) 3 w2 w.heap.size (fun k => k < w1.heap.size) (.slice QA path.length qc) path := Kd.R_below (Kd.R_mono (Kd.R_bound hR1) (fun k hk => hk.2.2.1)) hB2
  have hBw : Below w.heap.size w w2 := by (repeat (first | exact Below.refl _ _ | (with_reducible assumption) | refine below_thenB ?_ (by assumption) | refine below_alloc ?_ _ | refine below_drew ?_ | refine pw_below_drewN ?_ _ | refine Below.setCell ?_ (by first | (simp; done) | omega | (simp; omega)) _))
  have hbl := blk_lt hF
  have h12 := hB1.size
  clear hH hR1 hG1 hO1 g1 g2 lH
  have HF := Aside0.mk hF
  have HN := Aside0.mk hRn
  have HO := Aside0.mk hR2
  have HW := Aside0.mk hBw
  clear hF hRn hR2 hBw hB1 hB2 hH2
  go_wp2_with fail
  obtain ⟨X, hX⟩ : ∃ X, X = w2.alloc (.cells #[.int .i64 fn, .int .i64 0, .int .i64 0, .int .i64 0, .slice PA path.length pc, .int .i64 0, .int .i64 0, .int .i64 0, .int .i64 0, .int .i64 0, .int .i64 0, .int .i64 0, .int .i64 0, .int .i64 (H 0), .int .i64 (H 1), .int .i64 (H 2), .int .i64 (H 3)] 52) := ⟨_, rfl⟩
  rw [← hX]
  have XD := Aside0.mk (show X.heap[w2.heap.size]? = some (.cells (FrB (.slice PA path.length pc) ⟨fn, 0, 0, 0, regsK args 0, H⟩) 52 (0, 0)) by rw [hX, regsK_zero]; exact heap_alloc_new _ _)
  have XF := Aside0.mk (show X.heap[b]? = some (.cells (FrB (.slice NA path.length nc) ⟨fn, 0, 0, 0, regs0 args, H⟩) 80 (0, 0)) by rw [hX]; exact heap_lt_alloc HF.out)
  have XN := Aside0.mk (show Kd.F (Kd.int .i64) X (fun k => w1.heap.size ≤ k ∧ k < w2.heap.size ∧ k ≠ b) NA path.length path by rw [hX]; exact Kd.F_step (Kd.F_mono (Kd.R_F (Kd.R_bound HN.out)) (fun k hk => ⟨hk.2.1, hk.2.2.1, hk.1⟩)) (fun k _ hlt => (below_alloc (Below.refl _ _) _).block k hlt))
  have XNC := Aside0.mk (show path.length ≤ nc by obtain ⟨A', c', hv, hl⟩ := HN.out.2.slice_; simp only [Value.slice.injEq] at hv; omega)
  have XO := Aside0.mk (show Kd.R (Kd.int .i64) 3 X w.heap.size (fun k => k < w1.heap.size) (.slice QA path.length qc) path by rw [hX]; exact Kd.R_alloc HO.out _)
  have XW := Aside0.mk (show Below w.heap.size w X by rw [hX]; have h := HW.out; (repeat (first | exact Below.refl _ _ | (with_reducible assumption) | refine below_thenB ?_ (by assumption) | refine below_alloc ?_ _ | refine below_drew ?_ | refine pw_below_drewN ?_ _ | refine Below.setCell ?_ (by first | (simp; done) | omega | (simp; omega)) _)))
  have hbd : b < w2.heap.size := hbl
  have hb1' : w1.heap.size ≤ b := hb
  have hwd : w.heap.size ≤ w2.heap.size := HW.out.size
  have hww : w.heap.size ≤ w1.heap.size := h12
  clear hX HF HN HO HW cH lH2 hbl
  generalize w2.heap.size = bd at *
  go_loopw [10] (fun v wr => ∃ k : Nat, v = .int .i64 k ∧ k ≤ 8 ∧ k ≤ args.length ∧ wr.heap[bd]? = some (.cells (FrB (.slice PA path.length pc) ⟨fn, 0, 0, 0, regsK args k, H⟩) 52 (0, 0)) ∧ Keep (fun j => j = bd) X wr) (fun v _ => 8 - (intOf v).toNat)
  case atStart => exact ⟨0, rfl, by omega, by omega, XD.out, Keep.refl _ _⟩
  case round =>
    obtain ⟨k, rfl, hk8, hkl, hD, hK⟩ := hrel
    have HD := Aside0.mk hD
    have HK := Aside0.mk hK
    by_cases hin : k < args.length ∧ k < 8
    · obtain ⟨v, hv⟩ : ∃ v, args[k]? = some v := ⟨_, List.getElem?_eq_getElem hin.1⟩
      obtain ⟨ad, hGA, hc⟩ := HG.out.2.2 (by omega)
      obtain ⟨c, -, rfl, hc1⟩ := hc k v hv
      have e0 := hc1 0 _ rfl
      have e1 : w.cell? (ad.add k) = some (.int .i64 v) := by simpa [Kd.int, Kd.scalar] using e0
      have e2 := World.block_lt_of_cell? w _ e1
      have e3 := (XW.out.cell e2).trans e1
      have e4 := hK.cell e3 (by omega)
      have HV := Aside0.mk hv
      have g3 : decide ((k : Int) < (args.length : Int)) = true := by simp; omega
      have g4 : decide ((k : Int) < 8) = true := by simp; omega
      have z1 : wr.frozen? ⟨bd, 5 + k, none⟩ = false := by simp [World.frozen?, hD]
      have z2 := (blk_cell hD (5 + k)).trans (FrB_reg hin.2)
      have z3 := blk_lt hD
      have z4 := World.block_lt_of_cell? wr _ e4
      have HI := Aside0.mk hin
      subst hGA
      clear hD hK hc hc1 e0 e1 e2 e3 hv hin
      have k0 : (0 : Int) ≤ (k : Int) := by omega
      have k8 : (k : Int) < 8 := by have := HI.out; omega
      have kl : (k : Int) < (args.length : Int) := by have := HI.out; omega
      go_wp2_with fail
      refine ⟨⟨k + 1, by go_num, by have := HI.out; omega, by have := HI.out; omega, ?_, ?_⟩, ?_⟩
      · rw [← regsK_succ args k v HV.out]
        exact heap_near HD.out (FrB_put (f := ⟨fn, 0, 0, 0, regsK args k, H⟩) HI.out.2 v)
      · exact Keep.setCell HK.out (.inl rfl) _
      · have := HI.out; simp [intOf]; omega
    · have hkk : 8 ≤ k ∨ args.length ≤ k := by omega
      have hD' := hD
      rw [FrB_regsK (.slice PA path.length pc) fn args k H hkk] at hD'
      have HD' := Aside0.mk hD'
      have z3 := blk_lt hD'
      have g3 : decide ((k : Int) < (args.length : Int)) = decide (k < args.length) := by simp
      have g4 : decide ((k : Int) < 8) = decide (k < 8) := by simp; omega
      have k0 : (0 : Int) ≤ (k : Int) := by omega
      clear hD hD' hK HD XD
      have HB := Aside0.mk (show wr.heap[b]? = some (.cells (FrB (.slice NA path.length nc) ⟨fn, 0, 0, 0, regs0 args, H⟩) 80 (0, 0)) from HK.out.heap XF.out (by omega))
      have HN := Aside0.mk (show Kd.F (Kd.int .i64) wr (fun k => w1.heap.size ≤ k ∧ k < bd ∧ k ≠ b) NA path.length path from HK.out.F XN.out (fun j hj => by omega))
      have HO := Aside0.mk (show Kd.R (Kd.int .i64) 3 wr w.heap.size (fun k => k < w1.heap.size) (.slice QA path.length qc) path from Kd.R_step XO.out (fun k hk hlt => HK.out.blk k hlt (by omega)))
      have HW := Aside0.mk (show Below w.heap.size w wr from XW.out.trans (HK.out.belowB (B := w.heap.size) (by have := XW.out.size; omega) (fun j hj => by omega)))
      have z4 : wr.cell? ⟨bd, 4, none⟩ = some (.slice PA path.length pc) := blk_cell HD'.out 4
      have z5 := blk_lt XF.out
      clear XF XN XO XW HK
      have g3 : decide ((k : Int) < (args.length : Int)) = true := by simp; omega
      have g4 : decide ((k : Int) < 8) = false := by simp; omega
      go_wp2_with fail
      generalize wr = wz at *
      go_loopw [11] (fun v wy => ∃ (j : Nat) (xs : List Int), v = .int .i64 j ∧ j ≤ path.length ∧ xs.length = path.length ∧ (0 < path.length → Kd.R (Kd.int .i64) 3 wy w.heap.size (fun k => k < w1.heap.size) (.slice (some ⟨g, 0, none⟩) path.length qc) xs) ∧ Keep (fun i => i = g) wz wy) (fun v _ => path.length - (intOf v).toNat)
      case atStart => exact ⟨0, path, rfl, by omega, rfl, fun h0 => by rw [← hgo h0]; exact HO.out, Keep.refl _ _⟩
      case round =>
        obtain ⟨j, xs, rfl, hj, hxl, hR, hK2⟩ := hrel
        have HK2 := Aside0.mk hK2
        by_cases hjl : j < path.length
        · have hR := hR (by omega)
          have hQ := hgo (by omega)
          obtain ⟨c1, c2⟩ := Kd.R_celln (0 : Int) hR (j : Int) (by omega) (by omega)
          rw [Int.toNat_natCast] at c1 c2
          have c3 := World.block_lt_of_cell? wr _ c1
          have g5 : decide ((j : Int) < (path.length : Int)) = true := by simp; omega
          have j0 : (0 : Int) ≤ (j : Int) := by omega
          have jl : (j : Int) < (path.length : Int) := by omega
          have HR := Aside0.mk hR
          have HJ := Aside0.mk hj
          subst hQ
          have HX := Aside0.mk hxl
          clear hR hK2 hj hxl
          go_wp2_with fail
          refine ⟨⟨j + 1, xs.set j (bits BinOp.xor IntKind.i64 (if IntKind.i64.signed = true then -1 else 9223372036854775807) (rdOf 0 xs (j : Int))), by go_num, by omega, by simp; exact HX.out, fun _ => ?_, Keep.setCell HK2.out (.inl rfl) _⟩, ?_⟩
          · have h := Kd.R_putn HR.out (j : Int) (bits BinOp.xor IntKind.i64 (if IntKind.i64.signed = true then -1 else 9223372036854775807) (rdOf 0 xs (j : Int))); rw [Int.toNat_natCast] at h; exact h
          · simp [intOf]; omega
        · have g5 : decide ((j : Int) < (path.length : Int)) = false := by simp; omega
          have hB3 := HK2.out.belowB (B := w.heap.size) (by have := HW.out.size; omega) (fun j hj => by omega)
          have y1 := HK2.out.heap HD'.out (by omega)
          have y2 := HK2.out.heap HB.out (by omega)
          have y3 := HK2.out.F HN.out (fun j hj => by omega)
          have y4 := HW.out.trans hB3
          have y5 := Aside0.mk (Kd.F_now y3)
          have Y4 := Aside0.mk y4
          have Y2 := Aside0.mk y2
          have y6 := blk_lt y2
          have cD := fun j => blk_cell y1 j
          unfold FrB at cD
          clear hR hK2 y1 y3 y4 hB3 HK2
          go_wp2_with (first | (go_at_call 28; go_must (refine (alike_yes hcmp b NA PA nc pc path ⟨fn, 0, 0, 0, regs0 args, H⟩ _ Y2.out y5.out XNC.out (Kd.C_below HP.out (by have h := Y4.out; (repeat (first | exact Below.refl _ _ | (with_reducible assumption) | refine below_thenB ?_ (by assumption) | refine below_alloc ?_ _ | refine below_drew ?_ | refine pw_below_drewN ?_ _ | refine Below.setCell ?_ (by first | (simp; done) | omega | (simp; omega)) _)))) hpc (by omega)).mono ?_; rintro e w4 ⟨rfl, hb4⟩)) | (go_at_call 29; go_must (refine (awake12 _).mono ?_; rintro e w5 ⟨rfl, hb5⟩)))
          go_ret
          exact ⟨rfl, by have h := Y4.out; (repeat (first | exact Below.refl _ _ | (with_reducible assumption) | refine below_thenB ?_ (by assumption) | refine below_alloc ?_ _ | refine below_drew ?_ | refine pw_below_drewN ?_ _ | refine Below.setCell ?_ (by first | (simp; done) | omega | (simp; omega)) _))⟩
set_option maxRecDepth 20000 in
set_option maxHeartbeats 1600000 in
theorem fnew_few (hcmp : CmpOk) (fn : Int) (PA : Option Addr) (pc : Nat) (path : List Int) (GA : Option Addr) (gc : Nat) (args : List Int) (H : Nat → Int) (w : World) (hp : Kd.C (Kd.int .i64) w PA path.length path) (hpc : path.length ≤ pc) (hg : Kd.C (Kd.int .i64) w GA args.length args) (h1 : ¬ 50 < path.length) (h2 : ¬ 50 < args.length) (h3 : args.length ≤ 8) :
    Calls Try.prog 8 #[.agg #[.int .i64 fn, .slice PA path.length pc, .slice GA args.length gc, .int .i64 (H 0), .int .i64 (H 1), .int .i64 (H 2), .int .i64 (H 3)]] w fun e w' => e = .returned (.bool true) ∧ Below w.heap.size w w' := by
  have hpl := hp.2.1
  have hgl := hg.2.1
  have HP := Aside0.mk hp
  have HG := Aside0.mk hg
  clear hp hg
  have g1 : decide ((50 : Int) < (path.length : Int)) = false := by simp; omega
  have g2 : decide ((50 : Int) < (args.length : Int)) = false := by simp; omega
  go_enter Try.func8, Try.ntmps8
  go_wp2_with fail
  refine plan_begin (fun _ => False) 12 13 rfl (by kernel_rfl) (fun hSk => ?_)
  (refine plan_q 0 rfl (by kernel_rfl) (by kernel_rfl) (by kernel_rfl) rfl rfl (fun _ _ _ _ h => h) hSk (by decide) (by kernel_rfl) (fun K hK => ?_); go_big_quiet_op; with_reducible refine hK _ ?_; clear hK K)
  (refine plan_q 1 rfl (by kernel_rfl) (by kernel_rfl) (by kernel_rfl) rfl rfl (fun _ _ _ _ h => h) hSk (by decide) (by kernel_rfl) (fun K hK => ?_); go_big_quiet_op; with_reducible refine hK _ ?_; clear hK K)
  (refine plan_q 2 rfl (by kernel_rfl) (by kernel_rfl) (by kernel_rfl) rfl rfl (fun _ _ _ _ h => h) hSk (by decide) (by kernel_rfl) (fun K hK => ?_); go_big_quiet_op; with_reducible refine hK _ ?_; clear hK K)
  (refine plan_q 3 rfl (by kernel_rfl) (by kernel_rfl) (by kernel_rfl) rfl rfl (fun _ _ _ _ h => h) hSk (by decide) (by kernel_rfl) (fun K hK => ?_); go_big_quiet_op; with_reducible refine hK _ ?_; clear hK K)
  (refine plan_q 4 rfl (by kernel_rfl) (by kernel_rfl) (by kernel_rfl) rfl rfl (fun _ _ _ _ h => h) hSk (by decide) (by kernel_rfl) (fun K hK => ?_); go_big_quiet_op; with_reducible refine hK _ ?_; clear hK K)
  (refine plan_q 5 rfl (by kernel_rfl) (by kernel_rfl) (by kernel_rfl) rfl rfl (fun _ _ _ _ h => h) hSk (by decide) (by kernel_rfl) (fun K hK => ?_); go_big_quiet_op; with_reducible refine hK _ ?_; clear hK K)
  (refine plan_q 6 rfl (by kernel_rfl) (by kernel_rfl) (by kernel_rfl) rfl rfl (fun _ _ _ _ h => h) hSk (by decide) (by kernel_rfl) (fun K hK => ?_); go_big_quiet_op; with_reducible refine hK _ ?_; clear hK K)
  (refine plan_q 7 rfl (by kernel_rfl) (by kernel_rfl) (by kernel_rfl) rfl rfl (fun _ _ _ _ h => h) hSk (by decide) (by kernel_rfl) (fun K hK => ?_); go_big_quiet_op; with_reducible refine hK _ ?_; clear hK K)
  (refine plan_l 8 rfl (by kernel_rfl) (fun K hK => ?_); go_wp2_with (fail); (try simp only [Exit.then]); (try simp only [Act.put, List.setIfInBounds_toArray, List.set_cons_succ, List.set_cons_zero]); refine hK _ _ (fun hz0 => by clear hz0 hSk; (repeat (first | with_reducible exact Keep.refl _ _ | (with_reducible refine Keep.left ?_) | (with_reducible refine Keep.leftN ?_) | (with_reducible assumption) | (with_reducible refine Keep.setCell ?_ ?hs _; case hs => (first | (exact .inl rfl) | (simp; done) | (right; omega) | (right; simp; omega))) | (with_reducible refine Keep.allocs ?_ (by simp; done) _) | (with_reducible refine Keep.alloc ?_ _) | (with_reducible refine Keep.drew ?_) | (with_reducible refine Keep.drewN ?_ _) | refine Keep.thenBelow ?_ (by assumption) | refine Keep.grown ?_ (by assumption) (by intro k hk; (first | (cases hk; done) | (exfalso; simp [Value.ownBlock] at hk; done) | (simp [Value.ownBlock] at hk; subst hk; (first | (right; simp; omega) | (left; first | rfl | simp)))) ) | refine Keep.trans ?_ (by assumption) | (with_reducible refine Keep.allocs ?_ (by simp; done) _) | refine Keep.alloc ?_ _ | refine Keep.drew ?_ | refine Keep.drewN ?_ _ | refine Keep.setCell ?_ (by first | (exact .inl rfl) | (simp; done) | (right; omega) | (right; simp; omega)) _))) (fun hSk1 => ?_); clear hK K hSk; replace hSk1 := hSk1 (by decide); have hSk := hSk1; clear hSk1)
  (refine plan_q 9 rfl (by kernel_rfl) (by kernel_rfl) (by kernel_rfl) rfl rfl (fun _ _ _ _ h => h) hSk (by decide) (by kernel_rfl) (fun K hK => ?_); go_big_quiet_op; with_reducible refine hK _ ?_; clear hK K)
  (refine plan_q 10 rfl (by kernel_rfl) (by kernel_rfl) (by kernel_rfl) rfl rfl (fun _ _ _ _ h => h) hSk (by decide) (by kernel_rfl) (fun K hK => ?_); go_big_quiet_op; with_reducible refine hK _ ?_; clear hK K)
  (refine plan_q 11 rfl (by kernel_rfl) (by kernel_rfl) (by kernel_rfl) rfl rfl (fun _ _ _ _ h => h) hSk (by decide) (by kernel_rfl) (fun K hK => ?_); go_big_quiet_op; with_reducible refine hK _ ?_; clear hK K)
  (refine plan_l 12 rfl (by kernel_rfl) (fun K hK => ?_); go_wp2_with (fail); (try simp only [Exit.then]); (try simp only [Act.put, List.setIfInBounds_toArray, List.set_cons_succ, List.set_cons_zero]); refine hK _ _ (fun hz0 => by exact absurd rfl hz0) (fun hSk1 => ?_); clear hK K hSk)
  refine plan_e (by kernel_rfl) ?_
  clear hSk1
  go_wp2_with (at_builtin; go_must (refine Kd.R_append_rows (Kd.int .i64) w.heap.size (by rfl) _ _ 38 3 (.int .i64 0) 8 (by rfl) Try.underlying38 info_clone (by rfl) (by decide) (by decide) (.slice (some ⟨w.heap.size + 1 + 1, 0, none⟩) 0 0) [] path PA path.length pc (fun _ => True) (fun _ => False) (by rfl) (by rfl) (by have h := made_nil (w := (w.alloc (.cells #[.int .i64 fn, .slice PA path.length pc, .slice GA args.length gc, .int .i64 (H 0), .int .i64 (H 1), .int .i64 (H 2), .int .i64 (H 3)] 76)).alloc (.cells #[.int .i64 (H 0), .int .i64 (H 1), .int .i64 (H 2), .int .i64 (H 3)] 50)) (e := 3) trivial; have h := Kd.R_lower (base' := w.heap.size) h (by simp <;> omega); first | simpa using h | simpa using Kd.R_drew h) (Kd.C_below HP.out (by (repeat (first | exact Below.refl _ _ | (with_reducible assumption) | refine below_thenB ?_ (by assumption) | refine below_alloc ?_ _ | refine below_drew ?_ | refine pw_below_drewN ?_ _ | refine Below.setCell ?_ (by first | (simp; done) | omega | (simp; omega)) _)))) (fun _ _ h => h) (fun _ h => h.elim) (fun _ _ => trivial) (w0 := w) (by (repeat (first | exact Below.refl _ _ | (with_reducible assumption) | refine below_thenB ?_ (by assumption) | refine below_alloc ?_ _ | refine below_drew ?_ | refine pw_below_drewN ?_ _ | refine Below.setCell ?_ (by first | (simp; done) | omega | (simp; omega)) _))) (by simp <;> omega) (by simp; omega) ?_; intro v1 w1 hR1 hB1 hG1 hO1; rw [List.nil_append] at hR1; (obtain ⟨QA, qc, rfl⟩ := Kd.R_slice hR1); (have hH : w1.heap[w.heap.size + 1]? = some (.cells #[.int .i64 (H 0), .int .i64 (H 1), .int .i64 (H 2), .int .i64 (H 3)] 50 (0, 0)) := (hG1.block _ (by simp <;> omega) (by simp [Value.ownBlock])).trans (by (repeat (first | (with_reducible assumption) | (with_reducible refine heap_drew1 ?_) | (with_reducible refine heap_drewN1 ?_) | exact heap_at_alloc (by first | rfl | (simp; done) | (simp; omega)) | (with_reducible refine heap_lt_alloc ?_) | (refine heap_near ?_ (by first | rfl | (simp; done))) | (refine heap_far ?_ (by first | (simp; done) | (simp; omega))) | exact blk_below (by assumption) (by assumption))))); (have cH := fun j => blk_cell hH j); (have lH := blk_lt hH)))
  obtain ⟨g, hgo, hg0, hg1⟩ : ∃ g, (0 < path.length → QA = some ⟨g, 0, none⟩) ∧ w.heap.size ≤ g ∧ g < w1.heap.size := by
    by_cases h0 : 0 < path.length
    · obtain ⟨g, cap, he, hb, hl, -⟩ := Kd.R_form hR1 h0
      simp only [Value.slice.injEq] at he
      exact ⟨g, fun _ => he.1, hb, hl⟩
    · exact ⟨w.heap.size, fun h => absurd h h0, Nat.le_refl _, by omega⟩
  refine (new_any fn QA qc path GA gc args H _ (Kd.F_now (Kd.R_F hR1)) (by omega) (Kd.C_below HG.out hB1)).mono ?_
  rintro e w2 ⟨b, NA, nc, rfl, hb, hF, hRn, hB2⟩
  have hH2 := blk_below hH hB2
  have lH2 := blk_lt hH2
  have cH := fun j => blk_cell hH2 j
  have hR2 : Kd.R (Kd.int .i64) 3 w2 w.heap.size (fun k => k < w1.heap.size) (.slice QA path.length qc) path := Kd.R_below (Kd.R_mono (Kd.R_bound hR1) (fun k hk => hk.2.2.1)) hB2
  have hBw : Below w.heap.size w w2 := by (repeat (first | exact Below.refl _ _ | (with_reducible assumption) | refine below_thenB ?_ (by assumption) | refine below_alloc ?_ _ | refine below_drew ?_ | refine pw_below_drewN ?_ _ | refine Below.setCell ?_ (by first | (simp; done) | omega | (simp; omega)) _))
  have hbl := blk_lt hF
  have h12 := hB1.size
  clear hH hR1 hG1 hO1 g1 g2 lH
  have HF := Aside0.mk hF
  have HN := Aside0.mk hRn
  have HO := Aside0.mk hR2
  have HW := Aside0.mk hBw
  clear hF hRn hR2 hBw hB1 hB2 hH2
  go_wp2_with fail
  obtain ⟨X, hX⟩ : ∃ X, X = w2.alloc (.cells #[.int .i64 fn, .int .i64 0, .int .i64 0, .int .i64 0, .slice PA path.length pc, .int .i64 0, .int .i64 0, .int .i64 0, .int .i64 0, .int .i64 0, .int .i64 0, .int .i64 0, .int .i64 0, .int .i64 (H 0), .int .i64 (H 1), .int .i64 (H 2), .int .i64 (H 3)] 52) := ⟨_, rfl⟩
  rw [← hX]
  have XD := Aside0.mk (show X.heap[w2.heap.size]? = some (.cells (FrB (.slice PA path.length pc) ⟨fn, 0, 0, 0, regsK args 0, H⟩) 52 (0, 0)) by rw [hX, regsK_zero]; exact heap_alloc_new _ _)
  have XF := Aside0.mk (show X.heap[b]? = some (.cells (FrB (.slice NA path.length nc) ⟨fn, 0, 0, 0, regs0 args, H⟩) 80 (0, 0)) by rw [hX]; exact heap_lt_alloc HF.out)
  have XN := Aside0.mk (show Kd.F (Kd.int .i64) X (fun k => w1.heap.size ≤ k ∧ k < w2.heap.size ∧ k ≠ b) NA path.length path by rw [hX]; exact Kd.F_step (Kd.F_mono (Kd.R_F (Kd.R_bound HN.out)) (fun k hk => ⟨hk.2.1, hk.2.2.1, hk.1⟩)) (fun k _ hlt => (below_alloc (Below.refl _ _) _).block k hlt))
  have XNC := Aside0.mk (show path.length ≤ nc by obtain ⟨A', c', hv, hl⟩ := HN.out.2.slice_; simp only [Value.slice.injEq] at hv; omega)
  have XO := Aside0.mk (show Kd.R (Kd.int .i64) 3 X w.heap.size (fun k => k < w1.heap.size) (.slice QA path.length qc) path by rw [hX]; exact Kd.R_alloc HO.out _)
  have XW := Aside0.mk (show Below w.heap.size w X by rw [hX]; have h := HW.out; (repeat (first | exact Below.refl _ _ | (with_reducible assumption) | refine below_thenB ?_ (by assumption) | refine below_alloc ?_ _ | refine below_drew ?_ | refine pw_below_drewN ?_ _ | refine Below.setCell ?_ (by first | (simp; done) | omega | (simp; omega)) _)))
  have hbd : b < w2.heap.size := hbl
  have hb1' : w1.heap.size ≤ b := hb
  have hwd : w.heap.size ≤ w2.heap.size := HW.out.size
  have hww : w.heap.size ≤ w1.heap.size := h12
  clear hX HF HN HO HW cH lH2 hbl
  generalize w2.heap.size = bd at *
  go_loopw [10] (fun v wr => ∃ k : Nat, v = .int .i64 k ∧ k ≤ 8 ∧ k ≤ args.length ∧ wr.heap[bd]? = some (.cells (FrB (.slice PA path.length pc) ⟨fn, 0, 0, 0, regsK args k, H⟩) 52 (0, 0)) ∧ Keep (fun j => j = bd) X wr) (fun v _ => 8 - (intOf v).toNat)
  case atStart => exact ⟨0, rfl, by omega, by omega, XD.out, Keep.refl _ _⟩
  case round =>
    obtain ⟨k, rfl, hk8, hkl, hD, hK⟩ := hrel
    have HD := Aside0.mk hD
    have HK := Aside0.mk hK
    by_cases hin : k < args.length ∧ k < 8
    · obtain ⟨v, hv⟩ : ∃ v, args[k]? = some v := ⟨_, List.getElem?_eq_getElem hin.1⟩
      obtain ⟨ad, hGA, hc⟩ := HG.out.2.2 (by omega)
      obtain ⟨c, -, rfl, hc1⟩ := hc k v hv
      have e0 := hc1 0 _ rfl
      have e1 : w.cell? (ad.add k) = some (.int .i64 v) := by simpa [Kd.int, Kd.scalar] using e0
      have e2 := World.block_lt_of_cell? w _ e1
      have e3 := (XW.out.cell e2).trans e1
      have e4 := hK.cell e3 (by omega)
      have HV := Aside0.mk hv
      have g3 : decide ((k : Int) < (args.length : Int)) = true := by simp; omega
      have g4 : decide ((k : Int) < 8) = true := by simp; omega
      have z1 : wr.frozen? ⟨bd, 5 + k, none⟩ = false := by simp [World.frozen?, hD]
      have z2 := (blk_cell hD (5 + k)).trans (FrB_reg hin.2)
      have z3 := blk_lt hD
      have z4 := World.block_lt_of_cell? wr _ e4
      have HI := Aside0.mk hin
      subst hGA
      clear hD hK hc hc1 e0 e1 e2 e3 hv hin
      have k0 : (0 : Int) ≤ (k : Int) := by omega
      have k8 : (k : Int) < 8 := by have := HI.out; omega
      have kl : (k : Int) < (args.length : Int) := by have := HI.out; omega
      go_wp2_with fail
      refine ⟨⟨k + 1, by go_num, by have := HI.out; omega, by have := HI.out; omega, ?_, ?_⟩, ?_⟩
      · rw [← regsK_succ args k v HV.out]
        exact heap_near HD.out (FrB_put (f := ⟨fn, 0, 0, 0, regsK args k, H⟩) HI.out.2 v)
      · exact Keep.setCell HK.out (.inl rfl) _
      · have := HI.out; simp [intOf]; omega
    · have hkk : 8 ≤ k ∨ args.length ≤ k := by omega
      have hD' := hD
      rw [FrB_regsK (.slice PA path.length pc) fn args k H hkk] at hD'
      have HD' := Aside0.mk hD'
      have z3 := blk_lt hD'
      have g3 : decide ((k : Int) < (args.length : Int)) = decide (k < args.length) := by simp
      have g4 : decide ((k : Int) < 8) = decide (k < 8) := by simp; omega
      have k0 : (0 : Int) ≤ (k : Int) := by omega
      clear hD hD' hK HD XD
      have HB := Aside0.mk (show wr.heap[b]? = some (.cells (FrB (.slice NA path.length nc) ⟨fn, 0, 0, 0, regs0 args, H⟩) 80 (0, 0)) from HK.out.heap XF.out (by omega))
      have HN := Aside0.mk (show Kd.F (Kd.int .i64) wr (fun k => w1.heap.size ≤ k ∧ k < bd ∧ k ≠ b) NA path.length path from HK.out.F XN.out (fun j hj => by omega))
      have HO := Aside0.mk (show Kd.R (Kd.int .i64) 3 wr w.heap.size (fun k => k < w1.heap.size) (.slice QA path.length qc) path from Kd.R_step XO.out (fun k hk hlt => HK.out.blk k hlt (by omega)))
      have HW := Aside0.mk (show Below w.heap.size w wr from XW.out.trans (HK.out.belowB (B := w.heap.size) (by have := XW.out.size; omega) (fun j hj => by omega)))
      have z4 : wr.cell? ⟨bd, 4, none⟩ = some (.slice PA path.length pc) := blk_cell HD'.out 4
      have z5 := blk_lt XF.out
      clear XF XN XO XW HK
      have g3 : decide ((k : Int) < (args.length : Int)) = false := by simp; omega
      go_wp2_with fail
      generalize wr = wz at *
      go_loopw [11] (fun v wy => ∃ (j : Nat) (xs : List Int), v = .int .i64 j ∧ j ≤ path.length ∧ xs.length = path.length ∧ (0 < path.length → Kd.R (Kd.int .i64) 3 wy w.heap.size (fun k => k < w1.heap.size) (.slice (some ⟨g, 0, none⟩) path.length qc) xs) ∧ Keep (fun i => i = g) wz wy) (fun v _ => path.length - (intOf v).toNat)
      case atStart => exact ⟨0, path, rfl, by omega, rfl, fun h0 => by rw [← hgo h0]; exact HO.out, Keep.refl _ _⟩
      case round =>
        obtain ⟨j, xs, rfl, hj, hxl, hR, hK2⟩ := hrel
        have HK2 := Aside0.mk hK2
        by_cases hjl : j < path.length
        · have hR := hR (by omega)
          have hQ := hgo (by omega)
          obtain ⟨c1, c2⟩ := Kd.R_celln (0 : Int) hR (j : Int) (by omega) (by omega)
          rw [Int.toNat_natCast] at c1 c2
          have c3 := World.block_lt_of_cell? wr _ c1
          have g5 : decide ((j : Int) < (path.length : Int)) = true := by simp; omega
          have j0 : (0 : Int) ≤ (j : Int) := by omega
          have jl : (j : Int) < (path.length : Int) := by omega
          have HR := Aside0.mk hR
          have HJ := Aside0.mk hj
          subst hQ
          have HX := Aside0.mk hxl
          clear hR hK2 hj hxl
          go_wp2_with fail
          refine ⟨⟨j + 1, xs.set j (bits BinOp.xor IntKind.i64 (if IntKind.i64.signed = true then -1 else 9223372036854775807) (rdOf 0 xs (j : Int))), by go_num, by omega, by simp; exact HX.out, fun _ => ?_, Keep.setCell HK2.out (.inl rfl) _⟩, ?_⟩
          · have h := Kd.R_putn HR.out (j : Int) (bits BinOp.xor IntKind.i64 (if IntKind.i64.signed = true then -1 else 9223372036854775807) (rdOf 0 xs (j : Int))); rw [Int.toNat_natCast] at h; exact h
          · simp [intOf]; omega
        · have g5 : decide ((j : Int) < (path.length : Int)) = false := by simp; omega
          have hB3 := HK2.out.belowB (B := w.heap.size) (by have := HW.out.size; omega) (fun j hj => by omega)
          have y1 := HK2.out.heap HD'.out (by omega)
          have y2 := HK2.out.heap HB.out (by omega)
          have y3 := HK2.out.F HN.out (fun j hj => by omega)
          have y4 := HW.out.trans hB3
          have y5 := Aside0.mk (Kd.F_now y3)
          have Y4 := Aside0.mk y4
          have Y2 := Aside0.mk y2
          have y6 := blk_lt y2
          have cD := fun j => blk_cell y1 j
          unfold FrB at cD
          clear hR hK2 y1 y3 y4 hB3 HK2
          go_wp2_with (first | (go_at_call 28; go_must (refine (alike_yes hcmp b NA PA nc pc path ⟨fn, 0, 0, 0, regs0 args, H⟩ _ Y2.out y5.out XNC.out (Kd.C_below HP.out (by have h := Y4.out; (repeat (first | exact Below.refl _ _ | (with_reducible assumption) | refine below_thenB ?_ (by assumption) | refine below_alloc ?_ _ | refine below_drew ?_ | refine pw_below_drewN ?_ _ | refine Below.setCell ?_ (by first | (simp; done) | omega | (simp; omega)) _)))) hpc (by omega)).mono ?_; rintro e w4 ⟨rfl, hb4⟩)) | (go_at_call 29; go_must (refine (awake12 _).mono ?_; rintro e w5 ⟨rfl, hb5⟩)))
          go_ret
          exact ⟨rfl, by have h := Y4.out; (repeat (first | exact Below.refl _ _ | (with_reducible assumption) | refine below_thenB ?_ (by assumption) | refine below_alloc ?_ _ | refine below_drew ?_ | refine pw_below_drewN ?_ _ | refine Below.setCell ?_ (by first | (simp; done) | omega | (simp; omega)) _))⟩
theorem fnew_any (hcmp : CmpOk) (fn : Int) (PA : Option Addr) (pc : Nat) (path : List Int) (GA : Option Addr) (gc : Nat) (args : List Int) (H : Nat → Int) (w : World) (hp : Kd.C (Kd.int .i64) w PA path.length path) (hpc : path.length ≤ pc) (hg : Kd.C (Kd.int .i64) w GA args.length args) :
    Calls Try.prog 8 #[.agg #[.int .i64 fn, .slice PA path.length pc, .slice GA args.length gc, .int .i64 (H 0), .int .i64 (H 1), .int .i64 (H 2), .int .i64 (H 3)]] w fun e w' => e = .returned (.bool true) ∧ Below w.heap.size w w' := by
  by_cases h1 : 50 < path.length
  · exact fnew_early hcmp fn PA pc path GA gc args H w hp hpc hg (.inl h1)
  by_cases h2 : 50 < args.length
  · exact fnew_early hcmp fn PA pc path GA gc args H w hp hpc hg (.inr h2)
  by_cases h3 : 8 < args.length
  · exact fnew_many hcmp fn PA pc path GA gc args H w hp hpc hg h1 h2 h3
  · exact fnew_few hcmp fn PA pc path GA gc args H w hp hpc hg h1 h2 (by omega)
end Go.Proofs.Ytimmglnbjgbbjaa
