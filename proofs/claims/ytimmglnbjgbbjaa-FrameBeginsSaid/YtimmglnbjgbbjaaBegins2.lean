/- The law FrameBegins, walked. No conditions. -/
import Derived.Test.YtimmglnbjgbbjaaBegins1
import Derived.Test.YtimmglnbjgbbjaaAwake
import Derived.Test.YtimmglnbjgbbjaaPFrameBeginsx1
set_option linter.unusedSimpArgs false
set_option linter.unusedVariables false
namespace Go.Proofs.Ytimmglnbjgbbjaa
open Go.RowKit Go.Proofs.YtimmglnbjgbbjaaW.PrintWords
set_option maxRecDepth 20000 in
set_option maxHeartbeats 1600000 in
theorem begins_any (a0 a1 a2 a3 : Int) (many deep : Nat) (hm : many ≤ 255) (hd : deep ≤ 255) (fu : Bool) (w : World) :
    Calls Try.prog 11 #[.agg #[.int .i64 a0, .int .i64 a1, .int .i64 a2, .int .i64 a3, .int .u8 many, .int .u8 deep, .bool fu]] w fun e w' => e = .returned (.bool true) ∧ Below w.heap.size w w' := by
  cases fu
  · have m0 : (0 : Int) ≤ (many : Int) := by omega
    have o0 : (0 : Int) ≤ (deep : Int) := by omega
    have m1 : (many : Int) ≤ 255 := by omega
    have o1 : (deep : Int) ≤ 255 := by omega
    obtain ⟨D, hD⟩ : ∃ D : Nat, (deep : Int) % 5 = (D : Int) := ⟨deep % 5, by omega⟩
    obtain ⟨M, hM⟩ : ∃ M : Nat, (many : Int) % 10 = (M : Int) := ⟨many % 10, by omega⟩
    have D5 : D < 5 := by omega
    have M10 : M < 10 := by omega
    have HM := Aside0.mk hM
    have HD := Aside0.mk hD
    clear hM hD
    go_enter Try.func11, Try.ntmps11
    go_wp2_with fail
    refine plan_begin (fun _ => False) 13 13 rfl (by kernel_rfl) (fun hSk => ?_)
    (refine plan_q 0 rfl (by kernel_rfl) (by kernel_rfl) (by kernel_rfl) rfl rfl (fun _ _ _ _ h => h) hSk (by decide) (by kernel_rfl) (fun K hK => ?_); go_big_quiet_op; with_reducible refine hK _ ?_; clear hK K)
    (refine plan_q 1 rfl (by kernel_rfl) (by kernel_rfl) (by kernel_rfl) rfl rfl (fun _ _ _ _ h => h) hSk (by decide) (by kernel_rfl) (fun K hK => ?_); go_big_quiet_op; with_reducible refine hK _ ?_; clear hK K)
    (refine plan_q 2 rfl (by kernel_rfl) (by kernel_rfl) (by kernel_rfl) rfl rfl (fun _ _ _ _ h => h) hSk (by decide) (by kernel_rfl) (fun K hK => ?_); go_big_quiet_op; with_reducible refine hK _ ?_; clear hK K)
    (refine plan_q 3 rfl (by kernel_rfl) (by kernel_rfl) (by kernel_rfl) rfl rfl (fun _ _ _ _ h => h) hSk (by decide) (by kernel_rfl) (fun K hK => ?_); go_big_quiet_op; with_reducible refine hK _ ?_; clear hK K)
    (refine plan_q 4 rfl (by kernel_rfl) (by kernel_rfl) (by kernel_rfl) rfl rfl (fun _ _ _ _ h => h) hSk (by decide) (by kernel_rfl) (fun K hK => ?_); go_big_quiet_op; with_reducible refine hK _ ?_; clear hK K)
    (refine plan_q 5 rfl (by kernel_rfl) (by kernel_rfl) (by kernel_rfl) rfl rfl (fun _ _ _ _ h => h) hSk (by decide) (by kernel_rfl) (fun K hK => ?_); go_big_quiet_op; with_reducible refine hK _ ?_; clear hK K)
    (refine plan_q 6 rfl (by kernel_rfl) (by kernel_rfl) (by kernel_rfl) rfl rfl (fun _ _ _ _ h => h) hSk (by decide) (by kernel_rfl) (fun K hK => ?_); go_big_quiet_op; with_reducible refine hK _ ?_; clear hK K)
    (refine plan_q 7 rfl (by kernel_rfl) (by kernel_rfl) (by kernel_rfl) rfl rfl (fun _ _ _ _ h => h) hSk (by decide) (by kernel_rfl) (fun K hK => ?_); go_big_quiet_op; with_reducible refine hK _ ?_; clear hK K)
    (refine plan_l 8 rfl (by kernel_rfl) (fun K hK => ?_); go_wp2_with (fail); (try simp only [Exit.then]); (try simp only [Act.put, List.setIfInBounds_toArray, List.set_cons_succ, List.set_cons_zero]); refine hK _ _ (fun hz0 => by clear hz0 hSk; (repeat (first | with_reducible exact Keep.refl _ _ | (with_reducible refine Keep.left ?_) | (with_reducible refine Keep.leftN ?_) | (with_reducible assumption) | (with_reducible refine Keep.setCell ?_ ?hs _; case hs => (first | (exact .inl rfl) | (simp; done) | (right; omega) | (right; simp; omega))) | (with_reducible refine Keep.allocs ?_ (by simp; done) _) | (with_reducible refine Keep.alloc ?_ _) | (with_reducible refine Keep.drew ?_) | (with_reducible refine Keep.drewN ?_ _) | refine Keep.thenBelow ?_ (by assumption) | refine Keep.grown ?_ (by assumption) (by intro k hk; (first | (cases hk; done) | (exfalso; simp [Value.ownBlock] at hk; done) | (simp [Value.ownBlock] at hk; subst hk; (first | (right; simp; omega) | (left; first | rfl | simp)))) ) | refine Keep.trans ?_ (by assumption) | (with_reducible refine Keep.allocs ?_ (by simp; done) _) | refine Keep.alloc ?_ _ | refine Keep.drew ?_ | refine Keep.drewN ?_ _ | refine Keep.setCell ?_ (by first | (exact .inl rfl) | (simp; done) | (right; omega) | (right; simp; omega)) _))) (fun hSk1 => ?_); clear hK K hSk; replace hSk1 := hSk1 (by decide); have hSk := hSk1; clear hSk1)
    (refine plan_l 9 rfl (by kernel_rfl) (fun K hK => ?_); go_wp2_with (fail); (try simp only [Exit.then]); (try simp only [Act.put, List.setIfInBounds_toArray, List.set_cons_succ, List.set_cons_zero]); refine hK _ _ (fun hz0 => by clear hz0 hSk; (repeat (first | with_reducible exact Keep.refl _ _ | (with_reducible refine Keep.left ?_) | (with_reducible refine Keep.leftN ?_) | (with_reducible assumption) | (with_reducible refine Keep.setCell ?_ ?hs _; case hs => (first | (exact .inl rfl) | (simp; done) | (right; omega) | (right; simp; omega))) | (with_reducible refine Keep.allocs ?_ (by simp; done) _) | (with_reducible refine Keep.alloc ?_ _) | (with_reducible refine Keep.drew ?_) | (with_reducible refine Keep.drewN ?_ _) | refine Keep.thenBelow ?_ (by assumption) | refine Keep.grown ?_ (by assumption) (by intro k hk; (first | (cases hk; done) | (exfalso; simp [Value.ownBlock] at hk; done) | (simp [Value.ownBlock] at hk; subst hk; (first | (right; simp; omega) | (left; first | rfl | simp)))) ) | refine Keep.trans ?_ (by assumption) | (with_reducible refine Keep.allocs ?_ (by simp; done) _) | refine Keep.alloc ?_ _ | refine Keep.drew ?_ | refine Keep.drewN ?_ _ | refine Keep.setCell ?_ (by first | (exact .inl rfl) | (simp; done) | (right; omega) | (right; simp; omega)) _))) (fun hSk1 => ?_); clear hK K hSk; replace hSk1 := hSk1 (by decide); have hSk := hSk1; clear hSk1)
    (refine plan_q 10 rfl (by kernel_rfl) (by kernel_rfl) (by kernel_rfl) rfl rfl (fun _ _ _ _ h => h) hSk (by decide) (by kernel_rfl) (fun K hK => ?_); go_big_quiet_op; with_reducible refine hK _ ?_; clear hK K)
    (refine plan_q 11 rfl (by kernel_rfl) (by kernel_rfl) (by kernel_rfl) rfl rfl (fun _ _ _ _ h => h) hSk (by decide) (by kernel_rfl) (fun K hK => ?_); go_big_quiet_op; with_reducible refine hK _ ?_; clear hK K)
    (refine plan_q 12 rfl (by kernel_rfl) (by kernel_rfl) (by kernel_rfl) rfl rfl (fun _ _ _ _ h => h) hSk (by decide) (by kernel_rfl) (fun K hK => ?_); go_big_quiet_op; with_reducible refine hK _ ?_; clear hK K)
    refine plan_e (by kernel_rfl) ?_
    clear hSk
    go_wp2_with fail
    rw [HD.out]
    have hmk := run_make38 D (by omega)
    refine plan_begin (fun _ => False) 6 6 rfl (by kernel_rfl) (fun hSk => ?_)
    (refine plan_q 0 rfl (by kernel_rfl) (by kernel_rfl) (by kernel_rfl) rfl rfl (fun _ _ _ _ h => h) hSk (by decide) (by kernel_rfl) (fun K hK => ?_); go_big_quiet_op; with_reducible refine hK _ ?_; clear hK K)
    (refine plan_q 2 rfl (by kernel_rfl) (by kernel_rfl) (by kernel_rfl) rfl rfl (fun _ _ _ _ h => h) hSk (by decide) (by kernel_rfl) (fun K hK => ?_); go_big_quiet_op; with_reducible refine hK _ ?_; clear hK K)
    (refine plan_q 3 rfl (by kernel_rfl) (by kernel_rfl) (by kernel_rfl) rfl rfl (fun _ _ _ _ h => h) hSk (by decide) (by kernel_rfl) (fun K hK => ?_); go_big_quiet_op; with_reducible refine hK _ ?_; clear hK K)
    (refine plan_l 1 rfl (by kernel_rfl) (fun K hK => ?_); go_wp2_with (go_at_call 31; go_must (refine (new_n 0 _ D D (List.replicate D 0) (by simp) _ 4 4 [a0, a1, a2, a3] rfl (fun _ => 0) _ (made_C D (by omega) (by (repeat (first | (with_reducible assumption) | (with_reducible refine heap_drew1 ?_) | (with_reducible refine heap_drewN1 ?_) | exact heap_at_alloc (by first | rfl | (simp; done) | (simp; omega)) | (with_reducible refine heap_lt_alloc ?_) | (refine heap_near ?_ (by first | rfl | (simp; done))) | (refine heap_far ?_ (by first | (simp; done) | (simp; omega))) | exact blk_below (by assumption) (by assumption))))) (by simp; omega) (ints_C [a0, a1, a2, a3] (by simp) (by (repeat (first | (with_reducible assumption) | (with_reducible refine heap_drew1 ?_) | (with_reducible refine heap_drewN1 ?_) | exact heap_at_alloc (by first | rfl | (simp; done) | (simp; omega)) | (with_reducible refine heap_lt_alloc ?_) | (refine heap_near ?_ (by first | rfl | (simp; done))) | (refine heap_far ?_ (by first | (simp; done) | (simp; omega))) | exact blk_below (by assumption) (by assumption)))))).mono ?_; rintro e w1 ⟨b, QA, qc, rfl, hb1, hF1, hR1, hB1⟩)); (try simp only [Exit.then]); (try simp only [Act.put, List.setIfInBounds_toArray, List.set_cons_succ, List.set_cons_zero]); refine hK _ _ (fun hz0 => by clear hz0 hSk; (repeat (first | with_reducible exact Keep.refl _ _ | (with_reducible refine Keep.left ?_) | (with_reducible refine Keep.leftN ?_) | (with_reducible assumption) | (with_reducible refine Keep.setCell ?_ ?hs _; case hs => (first | (exact .inl rfl) | (simp; done) | (right; omega) | (right; simp; omega))) | (with_reducible refine Keep.allocs ?_ (by simp; done) _) | (with_reducible refine Keep.alloc ?_ _) | (with_reducible refine Keep.drew ?_) | (with_reducible refine Keep.drewN ?_ _) | refine Keep.thenBelow ?_ (by assumption) | refine Keep.grown ?_ (by assumption) (by intro k hk; (first | (cases hk; done) | (exfalso; simp [Value.ownBlock] at hk; done) | (simp [Value.ownBlock] at hk; subst hk; (first | (right; simp; omega) | (left; first | rfl | simp)))) ) | refine Keep.trans ?_ (by assumption) | (with_reducible refine Keep.allocs ?_ (by simp; done) _) | refine Keep.alloc ?_ _ | refine Keep.drew ?_ | refine Keep.drewN ?_ _ | refine Keep.setCell ?_ (by first | (exact .inl rfl) | (simp; done) | (right; omega) | (right; simp; omega)) _))) (fun hSk1 => ?_); clear hK K hSk; replace hSk1 := hSk1 (by decide); have hSk := hSk1; clear hSk1)
    (refine plan_l 4 rfl (by kernel_rfl) (fun K hK => ?_); go_wp2_with (go_at_call 31; go_must (refine (new_n 0 _ D D (List.replicate D 0) (by simp) _ 4 4 [a0, a1, a2, a3] rfl (fun _ => 0) _ (made_C D (by omega) (by (repeat (first | (with_reducible assumption) | (with_reducible refine heap_drew1 ?_) | (with_reducible refine heap_drewN1 ?_) | exact heap_at_alloc (by first | rfl | (simp; done) | (simp; omega)) | (with_reducible refine heap_lt_alloc ?_) | (refine heap_near ?_ (by first | rfl | (simp; done))) | (refine heap_far ?_ (by first | (simp; done) | (simp; omega))) | exact blk_below (by assumption) (by assumption))))) (by simp; omega) (ints_C [a0, a1, a2, a3] (by simp) (by (repeat (first | (with_reducible assumption) | (with_reducible refine heap_drew1 ?_) | (with_reducible refine heap_drewN1 ?_) | exact heap_at_alloc (by first | rfl | (simp; done) | (simp; omega)) | (with_reducible refine heap_lt_alloc ?_) | (refine heap_near ?_ (by first | rfl | (simp; done))) | (refine heap_far ?_ (by first | (simp; done) | (simp; omega))) | exact blk_below (by assumption) (by assumption)))))).mono ?_; rintro e w1 ⟨b, QA, qc, rfl, hb1, hF1, hR1, hB1⟩)); (try simp only [Exit.then]); (try simp only [Act.put, List.setIfInBounds_toArray, List.set_cons_succ, List.set_cons_zero]); refine hK _ _ (fun hz0 => by clear hz0 hSk; (repeat (first | with_reducible exact Keep.refl _ _ | (with_reducible refine Keep.left ?_) | (with_reducible refine Keep.leftN ?_) | (with_reducible assumption) | (with_reducible refine Keep.setCell ?_ ?hs _; case hs => (first | (exact .inl rfl) | (simp; done) | (right; omega) | (right; simp; omega))) | (with_reducible refine Keep.allocs ?_ (by simp; done) _) | (with_reducible refine Keep.alloc ?_ _) | (with_reducible refine Keep.drew ?_) | (with_reducible refine Keep.drewN ?_ _) | refine Keep.thenBelow ?_ (by assumption) | refine Keep.grown ?_ (by assumption) (by intro k hk; (first | (cases hk; done) | (exfalso; simp [Value.ownBlock] at hk; done) | (simp [Value.ownBlock] at hk; subst hk; (first | (right; simp; omega) | (left; first | rfl | simp)))) ) | refine Keep.trans ?_ (by assumption) | (with_reducible refine Keep.allocs ?_ (by simp; done) _) | refine Keep.alloc ?_ _ | refine Keep.drew ?_ | refine Keep.drewN ?_ _ | refine Keep.setCell ?_ (by first | (exact .inl rfl) | (simp; done) | (right; omega) | (right; simp; omega)) _))) (fun hSk1 => ?_); clear hK K hSk; replace hSk1 := hSk1 (by decide); have hSk := hSk1; clear hSk1)
    (refine plan_q 5 rfl (by kernel_rfl) (by kernel_rfl) (by kernel_rfl) rfl rfl (fun _ _ _ _ h => h) hSk (by decide) (by kernel_rfl) (fun K hK => ?_); go_big_quiet_op; with_reducible refine hK _ ?_; clear hK K)
    refine plan_e (by kernel_rfl) ?_
    clear hSk
    have S1 := Aside0.mk (show BgSt w 11 a0 a1 a2 a3 84 b QA qc D ⟨0, 0, 2 * ((0 : Nat) : Int), ((0 : Nat) : Int), regs0 [a0, a1, a2, a3], fun _ => 0⟩ w1 from
      ⟨blk_below (by (repeat (first | (with_reducible assumption) | (with_reducible refine heap_drew1 ?_) | (with_reducible refine heap_drewN1 ?_) | exact heap_at_alloc (by first | rfl | (simp; done) | (simp; omega)) | (with_reducible refine heap_lt_alloc ?_) | (refine heap_near ?_ (by first | rfl | (simp; done))) | (refine heap_far ?_ (by first | (simp; done) | (simp; omega))) | exact blk_below (by assumption) (by assumption)))) hB1, blk_below (by (repeat (first | (with_reducible assumption) | (with_reducible refine heap_drew1 ?_) | (with_reducible refine heap_drewN1 ?_) | exact heap_at_alloc (by first | rfl | (simp; done) | (simp; omega)) | (with_reducible refine heap_lt_alloc ?_) | (refine heap_near ?_ (by first | rfl | (simp; done))) | (refine heap_far ?_ (by first | (simp; done) | (simp; omega))) | exact blk_below (by assumption) (by assumption)))) hB1, blk_below (by (repeat (first | (with_reducible assumption) | (with_reducible refine heap_drew1 ?_) | (with_reducible refine heap_drewN1 ?_) | exact heap_at_alloc (by first | rfl | (simp; done) | (simp; omega)) | (with_reducible refine heap_lt_alloc ?_) | (refine heap_near ?_ (by first | rfl | (simp; done))) | (refine heap_far ?_ (by first | (simp; done) | (simp; omega))) | exact blk_below (by assumption) (by assumption)))) hB1, blk_below (by (repeat (first | (with_reducible assumption) | (with_reducible refine heap_drew1 ?_) | (with_reducible refine heap_drewN1 ?_) | exact heap_at_alloc (by first | rfl | (simp; done) | (simp; omega)) | (with_reducible refine heap_lt_alloc ?_) | (refine heap_near ?_ (by first | rfl | (simp; done))) | (refine heap_far ?_ (by first | (simp; done) | (simp; omega))) | exact blk_below (by assumption) (by assumption)))) hB1, hF1, Kd.F_mono (Kd.R_F hR1) (fun k hk => hk), by simp at hb1; omega, by (repeat (first | exact Below.refl _ _ | (with_reducible assumption) | refine below_thenB ?_ (by assumption) | refine below_alloc ?_ _ | refine below_drew ?_ | refine pw_below_drewN ?_ _ | refine Below.setCell ?_ (by first | (simp; done) | omega | (simp; omega)) _))⟩)
    clear hb1 hF1 hR1 hB1 hmk
    go_wp2_with fail
    by_cases h3 : 3 ≤ D
    · refine wp_loop_rounds 1 ?_
      rw [rounds_succ]
      have S2 := Aside0.mk (show BgSt w 11 a0 a1 a2 a3 84 b QA qc D ⟨0, 0, 0, 0, regs0 [a0, a1, a2, a3], fun _ => 0⟩ w1 from S1.out)
      have g2 : decide (3 ≤ (D : Int)) = true := by simp; omega
      clear S1
      by_cases hM0 : 0 < M
      · have g1 : decide ((0 : Int) < (many : Int) % 10) = true := by have := HM.out; simp; omega
        go_wp2_with fail
        refine (S2.out.exec (by omega)).mono ?_
        rw [bg_deep (.inl rfl) D h3]
        rintro e w4 ⟨av4, qv4, rfl, hA4, hQ4, hF4, hK4⟩
        obtain ⟨Aa4, ca4, hav4⟩ := Kd.R_slice hA4
        have hav4 : av4 = .slice Aa4 0 ca4 := hav4
        obtain ⟨Av4, cv4, hqv4⟩ := Kd.R_slice hQ4
        have hqv4 : qv4 = .slice Av4 0 cv4 := hqv4
        subst hav4 hqv4
        have S6 := Aside0.mk (S2.out.step hK4 hF4)
        have d3 : w4.cell? ⟨b, 3, none⟩ = some (.int .i64 0) := blk_cell hF4 3
        have d4 := blk_lt hF4
        clear hA4 hQ4 hF4 hK4 S2
        simp only [effV, failsE]
        go_wp2_with (go_at_call 29; go_must (refine (awake12 _).mono ?_; rintro e w5 ⟨rfl, hb5⟩))
        have hB7 := S6.out.bel
        go_ret
        exact ⟨rfl, by (repeat (first | exact Below.refl _ _ | (with_reducible assumption) | refine below_thenB ?_ (by assumption) | refine below_alloc ?_ _ | refine below_drew ?_ | refine pw_below_drewN ?_ _ | refine Below.setCell ?_ (by first | (simp; done) | omega | (simp; omega)) _))⟩
      · have g1 : decide ((0 : Int) < (many : Int) % 10) = false := by have := HM.out; simp; omega
        go_wp2_with (go_at_call 29; go_must (refine (awake12 _).mono ?_; rintro e w5 ⟨rfl, hb5⟩))
        have hB7 := S2.out.bel
        go_ret
        exact ⟨rfl, by (repeat (first | exact Below.refl _ _ | (with_reducible assumption) | refine below_thenB ?_ (by assumption) | refine below_alloc ?_ _ | refine below_drew ?_ | refine pw_below_drewN ?_ _ | refine Below.setCell ?_ (by first | (simp; done) | omega | (simp; omega)) _))⟩
    go_loopw [11] (fun v wr => ∃ i : Nat, v = .int .i64 i ∧ i ≤ M ∧ BgSt w 11 a0 a1 a2 a3 84 b QA qc D ⟨0, 0, 2 * (i : Int), i, regs0 [a0, a1, a2, a3], fun _ => 0⟩ wr) (fun v _ => M - (intOf v).toNat)
    case atStart => exact ⟨0, rfl, by omega, S1.out⟩
    case round =>
      obtain ⟨i, rfl, hi, hS⟩ := hrel
      have S2 := Aside0.mk hS
      clear hS S1
      by_cases hiM : i < M
      · have g1 : decide ((i : Int) < (many : Int) % 10) = true := by have := HM.out; simp; omega
        go_wp2_with fail
        refine (S2.out.exec (by omega)).mono ?_
        rw [bg_first (.inl rfl) D i (by omega) (by omega), show bgE 11 D i (regs0 [a0, a1, a2, a3]) = ⟨3, 0, 2, 1, 0, 0, [a1, a2, a3], List.replicate D 0 ++ [(i : Int)]⟩ from rfl]
        rintro e w2 ⟨av, qv, rfl, hA, hQ, hF, hK⟩
        obtain ⟨Aa, ca, hav⟩ := Kd.R_slice hA
        have hav : av = .slice Aa 3 ca := hav
        subst hav
        have hQ : Kd.R (Kd.int .i64) 3 w2 _ (fun _ => True) qv (List.replicate D 0 ++ [(i : Int)]) := hQ
        have hA : Kd.R (Kd.int .i64) 2 w2 _ (fun _ => True) (.slice Aa 3 ca) [a1, a2, a3] := hA
        have hql : (List.replicate D (0 : Int) ++ [(i : Int)]).length = D + 1 := by simp
        obtain ⟨gq, cq, hqv, hqc⟩ : ∃ gq cq, qv = .slice (some ⟨gq, 0, none⟩) (D + 1) cq ∧ w2.cell? ⟨gq, D, none⟩ = some (.int .i64 i) := by
          obtain ⟨gq, cq, rfl, -, -, -⟩ := Kd.R_form hQ (by rw [hql]; omega)
          refine ⟨gq, cq, by rw [hql], ?_⟩
          have := (Kd.R_cell (0 : Int) hQ (D : Int) (by omega) (by rw [hql]; omega)).1
          simpa [rdOf, List.getElem?_append_right] using this
        subst hqv
        have S3 := Aside0.mk (S2.out.step hK hF)
        have g2 : decide (3 ≤ (D : Int)) = false := by simp; omega
        have hqlt := World.block_lt_of_cell? w2 ⟨gq, D, none⟩ hqc
        have hC1 := Aside0.mk (Kd.F_now (Kd.R_F hA))
        have hca : 3 ≤ ca := by obtain ⟨A', c', hv, hl⟩ := hA.2.slice_; simp only [Value.slice.injEq] at hv; have : [a1, a2, a3].length = 3 := rfl; omega
        clear hQ hF hK hA S2 hql
        simp only [effV]
        go_wp2_with fail
        have N3 := Aside0.mk (show PFrameBegins.haymowlaw12_numbers.f 5 [a1, a2, a3] [a1, a2, a3] = some true by simp [PFrameBegins.haymowlaw12_numbers.f, PFrameBegins.haymowlaw12_numbers.l0, wrap64])
        have S4 := Aside0.mk (S3.out.below (wy := w2.alloc (.cells #[.int .i64 3, .int .i64 0, .int .i64 2, .int .i64 1, .int .i64 0, .int .i64 0, .slice Aa 3 ca, .slice (some ⟨gq, 0, none⟩) (D + 1) cq] 60)) (by (repeat (first | exact Below.refl _ _ | (with_reducible assumption) | refine below_thenB ?_ (by assumption) | refine below_alloc ?_ _ | refine below_drew ?_ | refine pw_below_drewN ?_ _ | refine Below.setCell ?_ (by first | (simp; done) | omega | (simp; omega)) _))))
        have hC2 := Aside0.mk (ints_C_off 1 [a0] [a1, a2, a3] rfl (by simp) S4.out.ar)
        have hC1 := Aside0.mk (Kd.C_alloc hC1.out (.cells #[.int .i64 3, .int .i64 0, .int .i64 2, .int .i64 1, .int .i64 0, .int .i64 0, .slice Aa 3 ca, .slice (some ⟨gq, 0, none⟩) (D + 1) cq] 60))
        refine plan_begin (fun _ => False) 49 49 rfl (by kernel_rfl) (fun hSk => ?_)
        (refine plan_q 0 rfl (by kernel_rfl) (by kernel_rfl) (by kernel_rfl) rfl rfl (fun _ _ _ _ h => h) hSk (by decide) (by kernel_rfl) (fun K hK => ?_); go_big_quiet_op; with_reducible refine hK _ ?_; clear hK K)
        (refine plan_q 1 rfl (by kernel_rfl) (by kernel_rfl) (by kernel_rfl) rfl rfl (fun _ _ _ _ h => h) hSk (by decide) (by kernel_rfl) (fun K hK => ?_); go_big_quiet_op; with_reducible refine hK _ ?_; clear hK K)
        (refine plan_q 2 rfl (by kernel_rfl) (by kernel_rfl) (by kernel_rfl) rfl rfl (fun _ _ _ _ h => h) hSk (by decide) (by kernel_rfl) (fun K hK => ?_); go_big_quiet_op; with_reducible refine hK _ ?_; clear hK K)
        (refine plan_q 3 rfl (by kernel_rfl) (by kernel_rfl) (by kernel_rfl) rfl rfl (fun _ _ _ _ h => h) hSk (by decide) (by kernel_rfl) (fun K hK => ?_); go_big_quiet_op; with_reducible refine hK _ ?_; clear hK K)
        (refine plan_q 4 rfl (by kernel_rfl) (by kernel_rfl) (by kernel_rfl) rfl rfl (fun _ _ _ _ h => h) hSk (by decide) (by kernel_rfl) (fun K hK => ?_); go_big_quiet_op; with_reducible refine hK _ ?_; clear hK K)
        (refine plan_q 5 rfl (by kernel_rfl) (by kernel_rfl) (by kernel_rfl) rfl rfl (fun _ _ _ _ h => h) hSk (by decide) (by kernel_rfl) (fun K hK => ?_); go_big_quiet_op; with_reducible refine hK _ ?_; clear hK K)
        (refine plan_q 6 rfl (by kernel_rfl) (by kernel_rfl) (by kernel_rfl) rfl rfl (fun _ _ _ _ h => h) hSk (by decide) (by kernel_rfl) (fun K hK => ?_); go_big_quiet_op; with_reducible refine hK _ ?_; clear hK K)
        (first | (refine plan_s 7 rfl (by kernel_rfl) (by kernel_rfl) (by kernel_rfl) rfl (fun _ _ _ _ h => h) hSk (by decide) (by kernel_rfl) rfl ?_) | (refine plan_q 7 rfl (by kernel_rfl) (by kernel_rfl) (by kernel_rfl) rfl rfl (fun _ _ _ _ h => h) hSk (by decide) (by kernel_rfl) (fun K hK => ?_); go_big_quiet_op; with_reducible refine hK _ ?_; clear hK K))
        (first | (refine plan_s 8 rfl (by kernel_rfl) (by kernel_rfl) (by kernel_rfl) rfl (fun _ _ _ _ h => h) hSk (by decide) (by kernel_rfl) rfl ?_) | (refine plan_q 8 rfl (by kernel_rfl) (by kernel_rfl) (by kernel_rfl) rfl rfl (fun _ _ _ _ h => h) hSk (by decide) (by kernel_rfl) (fun K hK => ?_); go_big_quiet_op; with_reducible refine hK _ ?_; clear hK K))
        (first | (refine plan_s 9 rfl (by kernel_rfl) (by kernel_rfl) (by kernel_rfl) rfl (fun _ _ _ _ h => h) hSk (by decide) (by kernel_rfl) rfl ?_) | (refine plan_q 9 rfl (by kernel_rfl) (by kernel_rfl) (by kernel_rfl) rfl rfl (fun _ _ _ _ h => h) hSk (by decide) (by kernel_rfl) (fun K hK => ?_); go_big_quiet_op; with_reducible refine hK _ ?_; clear hK K))
        (first | (refine plan_s 10 rfl (by kernel_rfl) (by kernel_rfl) (by kernel_rfl) rfl (fun _ _ _ _ h => h) hSk (by decide) (by kernel_rfl) rfl ?_) | (refine plan_q 10 rfl (by kernel_rfl) (by kernel_rfl) (by kernel_rfl) rfl rfl (fun _ _ _ _ h => h) hSk (by decide) (by kernel_rfl) (fun K hK => ?_); go_big_quiet_op; with_reducible refine hK _ ?_; clear hK K))
        (first | (refine plan_s 11 rfl (by kernel_rfl) (by kernel_rfl) (by kernel_rfl) rfl (fun _ _ _ _ h => h) hSk (by decide) (by kernel_rfl) rfl ?_) | (refine plan_q 11 rfl (by kernel_rfl) (by kernel_rfl) (by kernel_rfl) rfl rfl (fun _ _ _ _ h => h) hSk (by decide) (by kernel_rfl) (fun K hK => ?_); go_big_quiet_op; with_reducible refine hK _ ?_; clear hK K))
        (first | (refine plan_s 12 rfl (by kernel_rfl) (by kernel_rfl) (by kernel_rfl) rfl (fun _ _ _ _ h => h) hSk (by decide) (by kernel_rfl) rfl ?_) | (refine plan_q 12 rfl (by kernel_rfl) (by kernel_rfl) (by kernel_rfl) rfl rfl (fun _ _ _ _ h => h) hSk (by decide) (by kernel_rfl) (fun K hK => ?_); go_big_quiet_op; with_reducible refine hK _ ?_; clear hK K))
        (first | (refine plan_s 13 rfl (by kernel_rfl) (by kernel_rfl) (by kernel_rfl) rfl (fun _ _ _ _ h => h) hSk (by decide) (by kernel_rfl) rfl ?_) | (refine plan_q 13 rfl (by kernel_rfl) (by kernel_rfl) (by kernel_rfl) rfl rfl (fun _ _ _ _ h => h) hSk (by decide) (by kernel_rfl) (fun K hK => ?_); go_big_quiet_op; with_reducible refine hK _ ?_; clear hK K))
        (refine plan_q 14 rfl (by kernel_rfl) (by kernel_rfl) (by kernel_rfl) rfl rfl (fun _ _ _ _ h => h) hSk (by decide) (by kernel_rfl) (fun K hK => ?_); go_big_quiet_op; with_reducible refine hK _ ?_; clear hK K)
        (refine plan_q 15 rfl (by kernel_rfl) (by kernel_rfl) (by kernel_rfl) rfl rfl (fun _ _ _ _ h => h) hSk (by decide) (by kernel_rfl) (fun K hK => ?_); go_big_quiet_op; with_reducible refine hK _ ?_; clear hK K)
        (first | (refine plan_s 16 rfl (by kernel_rfl) (by kernel_rfl) (by kernel_rfl) rfl (fun _ _ _ _ h => h) hSk (by decide) (by kernel_rfl) rfl ?_) | (refine plan_q 16 rfl (by kernel_rfl) (by kernel_rfl) (by kernel_rfl) rfl rfl (fun _ _ _ _ h => h) hSk (by decide) (by kernel_rfl) (fun K hK => ?_); go_big_quiet_op; with_reducible refine hK _ ?_; clear hK K))
        (first | (refine plan_s 17 rfl (by kernel_rfl) (by kernel_rfl) (by kernel_rfl) rfl (fun _ _ _ _ h => h) hSk (by decide) (by kernel_rfl) rfl ?_) | (refine plan_q 17 rfl (by kernel_rfl) (by kernel_rfl) (by kernel_rfl) rfl rfl (fun _ _ _ _ h => h) hSk (by decide) (by kernel_rfl) (fun K hK => ?_); go_big_quiet_op; with_reducible refine hK _ ?_; clear hK K))
        (first | (refine plan_s 18 rfl (by kernel_rfl) (by kernel_rfl) (by kernel_rfl) rfl (fun _ _ _ _ h => h) hSk (by decide) (by kernel_rfl) rfl ?_) | (refine plan_q 18 rfl (by kernel_rfl) (by kernel_rfl) (by kernel_rfl) rfl rfl (fun _ _ _ _ h => h) hSk (by decide) (by kernel_rfl) (fun K hK => ?_); go_big_quiet_op; with_reducible refine hK _ ?_; clear hK K))
        (refine plan_l 19 rfl (by kernel_rfl) (fun K hK => ?_); go_wp2_with (go_at_call 32; go_must (refine (PFrameBegins.haymowlaw12_numbers.calls 5 _ _ [a1, a2, a3] _ _ [a1, a2, a3] true _ (Kd.C_drew hC1.out) hca (Kd.C_drew hC2.out) (by simp) N3.out).mono ?_; rintro e w3 ⟨rfl, hD3⟩; (have hB3 := hD3.below))); (try simp only [Exit.then]); (try simp only [Act.put, List.setIfInBounds_toArray, List.set_cons_succ, List.set_cons_zero]); refine hK _ _ (fun hz0 => by clear hz0 hSk; (repeat (first | with_reducible exact Keep.refl _ _ | (with_reducible refine Keep.left ?_) | (with_reducible refine Keep.leftN ?_) | (with_reducible assumption) | (with_reducible refine Keep.setCell ?_ ?hs _; case hs => (first | (exact .inl rfl) | (simp; done) | (right; omega) | (right; simp; omega))) | (with_reducible refine Keep.allocs ?_ (by simp; done) _) | (with_reducible refine Keep.alloc ?_ _) | (with_reducible refine Keep.drew ?_) | (with_reducible refine Keep.drewN ?_ _) | refine Keep.thenBelow ?_ (by assumption) | refine Keep.grown ?_ (by assumption) (by intro k hk; (first | (cases hk; done) | (exfalso; simp [Value.ownBlock] at hk; done) | (simp [Value.ownBlock] at hk; subst hk; (first | (right; simp; omega) | (left; first | rfl | simp)))) ) | refine Keep.trans ?_ (by assumption) | (with_reducible refine Keep.allocs ?_ (by simp; done) _) | refine Keep.alloc ?_ _ | refine Keep.drew ?_ | refine Keep.drewN ?_ _ | refine Keep.setCell ?_ (by first | (exact .inl rfl) | (simp; done) | (right; omega) | (right; simp; omega)) _))) (fun hSk1 => ?_); clear hK K hSk; replace hSk1 := hSk1 (by decide); have hSk := hSk1; clear hSk1)
        (first | (refine plan_s 20 rfl (by kernel_rfl) (by kernel_rfl) (by kernel_rfl) rfl (fun _ _ _ _ h => h) hSk (by decide) (by kernel_rfl) rfl ?_) | (refine plan_q 20 rfl (by kernel_rfl) (by kernel_rfl) (by kernel_rfl) rfl rfl (fun _ _ _ _ h => h) hSk (by decide) (by kernel_rfl) (fun K hK => ?_); go_big_quiet_op; with_reducible refine hK _ ?_; clear hK K))
        (refine plan_q 21 rfl (by kernel_rfl) (by kernel_rfl) (by kernel_rfl) rfl rfl (fun _ _ _ _ h => h) hSk (by decide) (by kernel_rfl) (fun K hK => ?_); go_big_quiet_op; with_reducible refine hK _ ?_; clear hK K)
        (refine plan_q 22 rfl (by kernel_rfl) (by kernel_rfl) (by kernel_rfl) rfl rfl (fun _ _ _ _ h => h) hSk (by decide) (by kernel_rfl) (fun K hK => ?_); go_big_quiet_op; with_reducible refine hK _ ?_; clear hK K)
        (first | (refine plan_s 23 rfl (by kernel_rfl) (by kernel_rfl) (by kernel_rfl) rfl (fun _ _ _ _ h => h) hSk (by decide) (by kernel_rfl) rfl ?_) | (refine plan_q 23 rfl (by kernel_rfl) (by kernel_rfl) (by kernel_rfl) rfl rfl (fun _ _ _ _ h => h) hSk (by decide) (by kernel_rfl) (fun K hK => ?_); go_big_quiet_op; with_reducible refine hK _ ?_; clear hK K))
        (first | (refine plan_s 24 rfl (by kernel_rfl) (by kernel_rfl) (by kernel_rfl) rfl (fun _ _ _ _ h => h) hSk (by decide) (by kernel_rfl) rfl ?_) | (refine plan_q 24 rfl (by kernel_rfl) (by kernel_rfl) (by kernel_rfl) rfl rfl (fun _ _ _ _ h => h) hSk (by decide) (by kernel_rfl) (fun K hK => ?_); go_big_quiet_op; with_reducible refine hK _ ?_; clear hK K))
        (first | (refine plan_s 25 rfl (by kernel_rfl) (by kernel_rfl) (by kernel_rfl) rfl (fun _ _ _ _ h => h) hSk (by decide) (by kernel_rfl) rfl ?_) | (refine plan_q 25 rfl (by kernel_rfl) (by kernel_rfl) (by kernel_rfl) rfl rfl (fun _ _ _ _ h => h) hSk (by decide) (by kernel_rfl) (fun K hK => ?_); go_big_quiet_op; with_reducible refine hK _ ?_; clear hK K))
        (refine plan_q 26 rfl (by kernel_rfl) (by kernel_rfl) (by kernel_rfl) rfl rfl (fun _ _ _ _ h => h) hSk (by decide) (by kernel_rfl) (fun K hK => ?_); go_big_quiet_op; with_reducible refine hK _ ?_; clear hK K)
        (refine plan_q 27 rfl (by kernel_rfl) (by kernel_rfl) (by kernel_rfl) rfl rfl (fun _ _ _ _ h => h) hSk (by decide) (by kernel_rfl) (fun K hK => ?_); go_big_quiet_op; with_reducible refine hK _ ?_; clear hK K)
        (first | (refine plan_s 28 rfl (by kernel_rfl) (by kernel_rfl) (by kernel_rfl) rfl (fun _ _ _ _ h => h) hSk (by decide) (by kernel_rfl) rfl ?_) | (refine plan_q 28 rfl (by kernel_rfl) (by kernel_rfl) (by kernel_rfl) rfl rfl (fun _ _ _ _ h => h) hSk (by decide) (by kernel_rfl) (fun K hK => ?_); go_big_quiet_op; with_reducible refine hK _ ?_; clear hK K))
        (first | (refine plan_s 29 rfl (by kernel_rfl) (by kernel_rfl) (by kernel_rfl) rfl (fun _ _ _ _ h => h) hSk (by decide) (by kernel_rfl) rfl ?_) | (refine plan_q 29 rfl (by kernel_rfl) (by kernel_rfl) (by kernel_rfl) rfl rfl (fun _ _ _ _ h => h) hSk (by decide) (by kernel_rfl) (fun K hK => ?_); go_big_quiet_op; with_reducible refine hK _ ?_; clear hK K))
        (first | (refine plan_s 30 rfl (by kernel_rfl) (by kernel_rfl) (by kernel_rfl) rfl (fun _ _ _ _ h => h) hSk (by decide) (by kernel_rfl) rfl ?_) | (refine plan_q 30 rfl (by kernel_rfl) (by kernel_rfl) (by kernel_rfl) rfl rfl (fun _ _ _ _ h => h) hSk (by decide) (by kernel_rfl) (fun K hK => ?_); go_big_quiet_op; with_reducible refine hK _ ?_; clear hK K))
        (first | (refine plan_s 31 rfl (by kernel_rfl) (by kernel_rfl) (by kernel_rfl) rfl (fun _ _ _ _ h => h) hSk (by decide) (by kernel_rfl) rfl ?_) | (refine plan_q 31 rfl (by kernel_rfl) (by kernel_rfl) (by kernel_rfl) rfl rfl (fun _ _ _ _ h => h) hSk (by decide) (by kernel_rfl) (fun K hK => ?_); go_big_quiet_op; with_reducible refine hK _ ?_; clear hK K))
        (first | (refine plan_s 32 rfl (by kernel_rfl) (by kernel_rfl) (by kernel_rfl) rfl (fun _ _ _ _ h => h) hSk (by decide) (by kernel_rfl) rfl ?_) | (refine plan_q 32 rfl (by kernel_rfl) (by kernel_rfl) (by kernel_rfl) rfl rfl (fun _ _ _ _ h => h) hSk (by decide) (by kernel_rfl) (fun K hK => ?_); go_big_quiet_op; with_reducible refine hK _ ?_; clear hK K))
        (refine plan_q 33 rfl (by kernel_rfl) (by kernel_rfl) (by kernel_rfl) rfl rfl (fun _ _ _ _ h => h) hSk (by decide) (by kernel_rfl) (fun K hK => ?_); go_big_quiet_op; with_reducible refine hK _ ?_; clear hK K)
        (refine plan_q 34 rfl (by kernel_rfl) (by kernel_rfl) (by kernel_rfl) rfl rfl (fun _ _ _ _ h => h) hSk (by decide) (by kernel_rfl) (fun K hK => ?_); go_big_quiet_op; with_reducible refine hK _ ?_; clear hK K)
        (first | (refine plan_s 35 rfl (by kernel_rfl) (by kernel_rfl) (by kernel_rfl) rfl (fun _ _ _ _ h => h) hSk (by decide) (by kernel_rfl) rfl ?_) | (refine plan_q 35 rfl (by kernel_rfl) (by kernel_rfl) (by kernel_rfl) rfl rfl (fun _ _ _ _ h => h) hSk (by decide) (by kernel_rfl) (fun K hK => ?_); go_big_quiet_op; with_reducible refine hK _ ?_; clear hK K))
        (first | (refine plan_s 36 rfl (by kernel_rfl) (by kernel_rfl) (by kernel_rfl) rfl (fun _ _ _ _ h => h) hSk (by decide) (by kernel_rfl) rfl ?_) | (refine plan_q 36 rfl (by kernel_rfl) (by kernel_rfl) (by kernel_rfl) rfl rfl (fun _ _ _ _ h => h) hSk (by decide) (by kernel_rfl) (fun K hK => ?_); go_big_quiet_op; with_reducible refine hK _ ?_; clear hK K))
        (first | (refine plan_s 37 rfl (by kernel_rfl) (by kernel_rfl) (by kernel_rfl) rfl (fun _ _ _ _ h => h) hSk (by decide) (by kernel_rfl) rfl ?_) | (refine plan_q 37 rfl (by kernel_rfl) (by kernel_rfl) (by kernel_rfl) rfl rfl (fun _ _ _ _ h => h) hSk (by decide) (by kernel_rfl) (fun K hK => ?_); go_big_quiet_op; with_reducible refine hK _ ?_; clear hK K))
        (first | (refine plan_s 38 rfl (by kernel_rfl) (by kernel_rfl) (by kernel_rfl) rfl (fun _ _ _ _ h => h) hSk (by decide) (by kernel_rfl) rfl ?_) | (refine plan_q 38 rfl (by kernel_rfl) (by kernel_rfl) (by kernel_rfl) rfl rfl (fun _ _ _ _ h => h) hSk (by decide) (by kernel_rfl) (fun K hK => ?_); go_big_quiet_op; with_reducible refine hK _ ?_; clear hK K))
        (first | (refine plan_s 39 rfl (by kernel_rfl) (by kernel_rfl) (by kernel_rfl) rfl (fun _ _ _ _ h => h) hSk (by decide) (by kernel_rfl) rfl ?_) | (refine plan_q 39 rfl (by kernel_rfl) (by kernel_rfl) (by kernel_rfl) rfl rfl (fun _ _ _ _ h => h) hSk (by decide) (by kernel_rfl) (fun K hK => ?_); go_big_quiet_op; with_reducible refine hK _ ?_; clear hK K))
        (refine plan_q 40 rfl (by kernel_rfl) (by kernel_rfl) (by kernel_rfl) rfl rfl (fun _ _ _ _ h => h) hSk (by decide) (by kernel_rfl) (fun K hK => ?_); go_big_quiet_op; with_reducible refine hK _ ?_; clear hK K)
        (refine plan_q 41 rfl (by kernel_rfl) (by kernel_rfl) (by kernel_rfl) rfl rfl (fun _ _ _ _ h => h) hSk (by decide) (by kernel_rfl) (fun K hK => ?_); go_big_quiet_op; with_reducible refine hK _ ?_; clear hK K)
        (first | (refine plan_s 42 rfl (by kernel_rfl) (by kernel_rfl) (by kernel_rfl) rfl (fun _ _ _ _ h => h) hSk (by decide) (by kernel_rfl) rfl ?_) | (refine plan_q 42 rfl (by kernel_rfl) (by kernel_rfl) (by kernel_rfl) rfl rfl (fun _ _ _ _ h => h) hSk (by decide) (by kernel_rfl) (fun K hK => ?_); go_big_quiet_op; with_reducible refine hK _ ?_; clear hK K))
        (first | (refine plan_s 43 rfl (by kernel_rfl) (by kernel_rfl) (by kernel_rfl) rfl (fun _ _ _ _ h => h) hSk (by decide) (by kernel_rfl) rfl ?_) | (refine plan_q 43 rfl (by kernel_rfl) (by kernel_rfl) (by kernel_rfl) rfl rfl (fun _ _ _ _ h => h) hSk (by decide) (by kernel_rfl) (fun K hK => ?_); go_big_quiet_op; with_reducible refine hK _ ?_; clear hK K))
        (first | (refine plan_s 44 rfl (by kernel_rfl) (by kernel_rfl) (by kernel_rfl) rfl (fun _ _ _ _ h => h) hSk (by decide) (by kernel_rfl) rfl ?_) | (refine plan_q 44 rfl (by kernel_rfl) (by kernel_rfl) (by kernel_rfl) rfl rfl (fun _ _ _ _ h => h) hSk (by decide) (by kernel_rfl) (fun K hK => ?_); go_big_quiet_op; with_reducible refine hK _ ?_; clear hK K))
        (first | (refine plan_s 45 rfl (by kernel_rfl) (by kernel_rfl) (by kernel_rfl) rfl (fun _ _ _ _ h => h) hSk (by decide) (by kernel_rfl) rfl ?_) | (refine plan_q 45 rfl (by kernel_rfl) (by kernel_rfl) (by kernel_rfl) rfl rfl (fun _ _ _ _ h => h) hSk (by decide) (by kernel_rfl) (fun K hK => ?_); go_big_quiet_op; with_reducible refine hK _ ?_; clear hK K))
        (first | (refine plan_s 46 rfl (by kernel_rfl) (by kernel_rfl) (by kernel_rfl) rfl (fun _ _ _ _ h => h) hSk (by decide) (by kernel_rfl) rfl ?_) | (refine plan_q 46 rfl (by kernel_rfl) (by kernel_rfl) (by kernel_rfl) rfl rfl (fun _ _ _ _ h => h) hSk (by decide) (by kernel_rfl) (fun K hK => ?_); go_big_quiet_op; with_reducible refine hK _ ?_; clear hK K))
        (first | (refine plan_s 47 rfl (by kernel_rfl) (by kernel_rfl) (by kernel_rfl) rfl (fun _ _ _ _ h => h) hSk (by decide) (by kernel_rfl) rfl ?_) | (refine plan_q 47 rfl (by kernel_rfl) (by kernel_rfl) (by kernel_rfl) rfl rfl (fun _ _ _ _ h => h) hSk (by decide) (by kernel_rfl) (fun K hK => ?_); go_big_quiet_op; with_reducible refine hK _ ?_; clear hK K))
        (refine plan_q 48 rfl (by kernel_rfl) (by kernel_rfl) (by kernel_rfl) rfl rfl (fun _ _ _ _ h => h) hSk (by decide) (by kernel_rfl) (fun K hK => ?_); go_big_quiet_op; with_reducible refine hK _ ?_; clear hK K)
        refine plan_e (by kernel_rfl) ?_
        clear hSk
        have S5 := Aside0.mk (S4.out.below (wy := w3) (by (repeat (first | exact Below.refl _ _ | (with_reducible assumption) | refine below_thenB ?_ (by assumption) | refine below_alloc ?_ _ | refine below_drew ?_ | refine pw_below_drewN ?_ _ | refine Below.setCell ?_ (by first | (simp; done) | omega | (simp; omega)) _))))
        clear hC1 hC2 N3 S4 S3 hD3 hB3 hqc hqlt
        go_wp2_with fail
        refine (S5.out.exec (by omega)).mono ?_
        rw [bg_second (.inl rfl) D i (by omega)]
        rintro e w4 ⟨av4, qv4, rfl, hA4, hQ4, hF4, hK4⟩
        obtain ⟨Aa4, ca4, hav4⟩ := Kd.R_slice hA4
        have hav4 : av4 = .slice Aa4 0 ca4 := hav4
        obtain ⟨Av4, cv4, hqv4⟩ := Kd.R_slice hQ4
        have hqv4 : qv4 = .slice Av4 0 cv4 := hqv4
        subst hav4 hqv4
        have S6 := Aside0.mk (S5.out.step hK4 hF4)
        have d3 : w4.cell? ⟨b, 3, none⟩ = some (.int .i64 ((i : Int) + 1)) := blk_cell hF4 3
        have d4 := blk_lt hF4
        clear hA4 hQ4 hF4 hK4 S5
        simp only [effV, goesE]
        go_wp2_with fail
        go_roundw
        case rel => exact ⟨i + 1, by go_num, by omega, S6.out.below (by (repeat (first | exact Below.refl _ _ | (with_reducible assumption) | refine below_thenB ?_ (by assumption) | refine below_alloc ?_ _ | refine below_drew ?_ | refine pw_below_drewN ?_ _ | refine Below.setCell ?_ (by first | (simp; done) | omega | (simp; omega)) _)))⟩
        case measure => simp [intOf]; omega
      · have g1 : decide ((i : Int) < (many : Int) % 10) = false := by have := HM.out; simp; omega
        go_wp2_with (go_at_call 29; go_must (refine (awake12 _).mono ?_; rintro e w4 ⟨rfl, hb4⟩))
        have hB5 := S2.out.bel
        go_ret
        exact ⟨rfl, by (repeat (first | exact Below.refl _ _ | (with_reducible assumption) | refine below_thenB ?_ (by assumption) | refine below_alloc ?_ _ | refine below_drew ?_ | refine pw_below_drewN ?_ _ | refine Below.setCell ?_ (by first | (simp; done) | omega | (simp; omega)) _))⟩
  · have m0 : (0 : Int) ≤ (many : Int) := by omega
    have o0 : (0 : Int) ≤ (deep : Int) := by omega
    have m1 : (many : Int) ≤ 255 := by omega
    have o1 : (deep : Int) ≤ 255 := by omega
    obtain ⟨D, hD⟩ : ∃ D : Nat, (deep : Int) % 5 = (D : Int) := ⟨deep % 5, by omega⟩
    obtain ⟨M, hM⟩ : ∃ M : Nat, (many : Int) % 10 = (M : Int) := ⟨many % 10, by omega⟩
    have D5 : D < 5 := by omega
    have M10 : M < 10 := by omega
    have HM := Aside0.mk hM
    have HD := Aside0.mk hD
    clear hM hD
    go_enter Try.func11, Try.ntmps11
    go_wp2_with fail
    refine plan_begin (fun _ => False) 13 13 rfl (by kernel_rfl) (fun hSk => ?_)
    (refine plan_q 0 rfl (by kernel_rfl) (by kernel_rfl) (by kernel_rfl) rfl rfl (fun _ _ _ _ h => h) hSk (by decide) (by kernel_rfl) (fun K hK => ?_); go_big_quiet_op; with_reducible refine hK _ ?_; clear hK K)
    (refine plan_q 1 rfl (by kernel_rfl) (by kernel_rfl) (by kernel_rfl) rfl rfl (fun _ _ _ _ h => h) hSk (by decide) (by kernel_rfl) (fun K hK => ?_); go_big_quiet_op; with_reducible refine hK _ ?_; clear hK K)
    (refine plan_q 2 rfl (by kernel_rfl) (by kernel_rfl) (by kernel_rfl) rfl rfl (fun _ _ _ _ h => h) hSk (by decide) (by kernel_rfl) (fun K hK => ?_); go_big_quiet_op; with_reducible refine hK _ ?_; clear hK K)
    (refine plan_q 3 rfl (by kernel_rfl) (by kernel_rfl) (by kernel_rfl) rfl rfl (fun _ _ _ _ h => h) hSk (by decide) (by kernel_rfl) (fun K hK => ?_); go_big_quiet_op; with_reducible refine hK _ ?_; clear hK K)
    (refine plan_q 4 rfl (by kernel_rfl) (by kernel_rfl) (by kernel_rfl) rfl rfl (fun _ _ _ _ h => h) hSk (by decide) (by kernel_rfl) (fun K hK => ?_); go_big_quiet_op; with_reducible refine hK _ ?_; clear hK K)
    (refine plan_q 5 rfl (by kernel_rfl) (by kernel_rfl) (by kernel_rfl) rfl rfl (fun _ _ _ _ h => h) hSk (by decide) (by kernel_rfl) (fun K hK => ?_); go_big_quiet_op; with_reducible refine hK _ ?_; clear hK K)
    (refine plan_q 6 rfl (by kernel_rfl) (by kernel_rfl) (by kernel_rfl) rfl rfl (fun _ _ _ _ h => h) hSk (by decide) (by kernel_rfl) (fun K hK => ?_); go_big_quiet_op; with_reducible refine hK _ ?_; clear hK K)
    (refine plan_q 7 rfl (by kernel_rfl) (by kernel_rfl) (by kernel_rfl) rfl rfl (fun _ _ _ _ h => h) hSk (by decide) (by kernel_rfl) (fun K hK => ?_); go_big_quiet_op; with_reducible refine hK _ ?_; clear hK K)
    (refine plan_l 8 rfl (by kernel_rfl) (fun K hK => ?_); go_wp2_with (fail); (try simp only [Exit.then]); (try simp only [Act.put, List.setIfInBounds_toArray, List.set_cons_succ, List.set_cons_zero]); refine hK _ _ (fun hz0 => by clear hz0 hSk; (repeat (first | with_reducible exact Keep.refl _ _ | (with_reducible refine Keep.left ?_) | (with_reducible refine Keep.leftN ?_) | (with_reducible assumption) | (with_reducible refine Keep.setCell ?_ ?hs _; case hs => (first | (exact .inl rfl) | (simp; done) | (right; omega) | (right; simp; omega))) | (with_reducible refine Keep.allocs ?_ (by simp; done) _) | (with_reducible refine Keep.alloc ?_ _) | (with_reducible refine Keep.drew ?_) | (with_reducible refine Keep.drewN ?_ _) | refine Keep.thenBelow ?_ (by assumption) | refine Keep.grown ?_ (by assumption) (by intro k hk; (first | (cases hk; done) | (exfalso; simp [Value.ownBlock] at hk; done) | (simp [Value.ownBlock] at hk; subst hk; (first | (right; simp; omega) | (left; first | rfl | simp)))) ) | refine Keep.trans ?_ (by assumption) | (with_reducible refine Keep.allocs ?_ (by simp; done) _) | refine Keep.alloc ?_ _ | refine Keep.drew ?_ | refine Keep.drewN ?_ _ | refine Keep.setCell ?_ (by first | (exact .inl rfl) | (simp; done) | (right; omega) | (right; simp; omega)) _))) (fun hSk1 => ?_); clear hK K hSk; replace hSk1 := hSk1 (by decide); have hSk := hSk1; clear hSk1)
    (refine plan_l 9 rfl (by kernel_rfl) (fun K hK => ?_); go_wp2_with (fail); (try simp only [Exit.then]); (try simp only [Act.put, List.setIfInBounds_toArray, List.set_cons_succ, List.set_cons_zero]); refine hK _ _ (fun hz0 => by clear hz0 hSk; (repeat (first | with_reducible exact Keep.refl _ _ | (with_reducible refine Keep.left ?_) | (with_reducible refine Keep.leftN ?_) | (with_reducible assumption) | (with_reducible refine Keep.setCell ?_ ?hs _; case hs => (first | (exact .inl rfl) | (simp; done) | (right; omega) | (right; simp; omega))) | (with_reducible refine Keep.allocs ?_ (by simp; done) _) | (with_reducible refine Keep.alloc ?_ _) | (with_reducible refine Keep.drew ?_) | (with_reducible refine Keep.drewN ?_ _) | refine Keep.thenBelow ?_ (by assumption) | refine Keep.grown ?_ (by assumption) (by intro k hk; (first | (cases hk; done) | (exfalso; simp [Value.ownBlock] at hk; done) | (simp [Value.ownBlock] at hk; subst hk; (first | (right; simp; omega) | (left; first | rfl | simp)))) ) | refine Keep.trans ?_ (by assumption) | (with_reducible refine Keep.allocs ?_ (by simp; done) _) | refine Keep.alloc ?_ _ | refine Keep.drew ?_ | refine Keep.drewN ?_ _ | refine Keep.setCell ?_ (by first | (exact .inl rfl) | (simp; done) | (right; omega) | (right; simp; omega)) _))) (fun hSk1 => ?_); clear hK K hSk; replace hSk1 := hSk1 (by decide); have hSk := hSk1; clear hSk1)
    (refine plan_q 10 rfl (by kernel_rfl) (by kernel_rfl) (by kernel_rfl) rfl rfl (fun _ _ _ _ h => h) hSk (by decide) (by kernel_rfl) (fun K hK => ?_); go_big_quiet_op; with_reducible refine hK _ ?_; clear hK K)
    (refine plan_q 11 rfl (by kernel_rfl) (by kernel_rfl) (by kernel_rfl) rfl rfl (fun _ _ _ _ h => h) hSk (by decide) (by kernel_rfl) (fun K hK => ?_); go_big_quiet_op; with_reducible refine hK _ ?_; clear hK K)
    (refine plan_q 12 rfl (by kernel_rfl) (by kernel_rfl) (by kernel_rfl) rfl rfl (fun _ _ _ _ h => h) hSk (by decide) (by kernel_rfl) (fun K hK => ?_); go_big_quiet_op; with_reducible refine hK _ ?_; clear hK K)
    refine plan_e (by kernel_rfl) ?_
    clear hSk
    go_wp2_with fail
    rw [HD.out]
    have hmk := run_make38 D (by omega)
    refine plan_begin (fun _ => False) 6 6 rfl (by kernel_rfl) (fun hSk => ?_)
    (refine plan_q 0 rfl (by kernel_rfl) (by kernel_rfl) (by kernel_rfl) rfl rfl (fun _ _ _ _ h => h) hSk (by decide) (by kernel_rfl) (fun K hK => ?_); go_big_quiet_op; with_reducible refine hK _ ?_; clear hK K)
    (refine plan_q 2 rfl (by kernel_rfl) (by kernel_rfl) (by kernel_rfl) rfl rfl (fun _ _ _ _ h => h) hSk (by decide) (by kernel_rfl) (fun K hK => ?_); go_big_quiet_op; with_reducible refine hK _ ?_; clear hK K)
    (refine plan_q 3 rfl (by kernel_rfl) (by kernel_rfl) (by kernel_rfl) rfl rfl (fun _ _ _ _ h => h) hSk (by decide) (by kernel_rfl) (fun K hK => ?_); go_big_quiet_op; with_reducible refine hK _ ?_; clear hK K)
    (refine plan_l 1 rfl (by kernel_rfl) (fun K hK => ?_); go_wp2_with (go_at_call 31; go_must (refine (new_n 0 _ D D (List.replicate D 0) (by simp) _ 4 4 [a0, a1, a2, a3] rfl (fun _ => 0) _ (made_C D (by omega) (by (repeat (first | (with_reducible assumption) | (with_reducible refine heap_drew1 ?_) | (with_reducible refine heap_drewN1 ?_) | exact heap_at_alloc (by first | rfl | (simp; done) | (simp; omega)) | (with_reducible refine heap_lt_alloc ?_) | (refine heap_near ?_ (by first | rfl | (simp; done))) | (refine heap_far ?_ (by first | (simp; done) | (simp; omega))) | exact blk_below (by assumption) (by assumption))))) (by simp; omega) (ints_C [a0, a1, a2, a3] (by simp) (by (repeat (first | (with_reducible assumption) | (with_reducible refine heap_drew1 ?_) | (with_reducible refine heap_drewN1 ?_) | exact heap_at_alloc (by first | rfl | (simp; done) | (simp; omega)) | (with_reducible refine heap_lt_alloc ?_) | (refine heap_near ?_ (by first | rfl | (simp; done))) | (refine heap_far ?_ (by first | (simp; done) | (simp; omega))) | exact blk_below (by assumption) (by assumption)))))).mono ?_; rintro e w1 ⟨b, QA, qc, rfl, hb1, hF1, hR1, hB1⟩)); (try simp only [Exit.then]); (try simp only [Act.put, List.setIfInBounds_toArray, List.set_cons_succ, List.set_cons_zero]); refine hK _ _ (fun hz0 => by clear hz0 hSk; (repeat (first | with_reducible exact Keep.refl _ _ | (with_reducible refine Keep.left ?_) | (with_reducible refine Keep.leftN ?_) | (with_reducible assumption) | (with_reducible refine Keep.setCell ?_ ?hs _; case hs => (first | (exact .inl rfl) | (simp; done) | (right; omega) | (right; simp; omega))) | (with_reducible refine Keep.allocs ?_ (by simp; done) _) | (with_reducible refine Keep.alloc ?_ _) | (with_reducible refine Keep.drew ?_) | (with_reducible refine Keep.drewN ?_ _) | refine Keep.thenBelow ?_ (by assumption) | refine Keep.grown ?_ (by assumption) (by intro k hk; (first | (cases hk; done) | (exfalso; simp [Value.ownBlock] at hk; done) | (simp [Value.ownBlock] at hk; subst hk; (first | (right; simp; omega) | (left; first | rfl | simp)))) ) | refine Keep.trans ?_ (by assumption) | (with_reducible refine Keep.allocs ?_ (by simp; done) _) | refine Keep.alloc ?_ _ | refine Keep.drew ?_ | refine Keep.drewN ?_ _ | refine Keep.setCell ?_ (by first | (exact .inl rfl) | (simp; done) | (right; omega) | (right; simp; omega)) _))) (fun hSk1 => ?_); clear hK K hSk; replace hSk1 := hSk1 (by decide); have hSk := hSk1; clear hSk1)
    (refine plan_l 4 rfl (by kernel_rfl) (fun K hK => ?_); go_wp2_with (go_at_call 31; go_must (refine (new_n 0 _ D D (List.replicate D 0) (by simp) _ 4 4 [a0, a1, a2, a3] rfl (fun _ => 0) _ (made_C D (by omega) (by (repeat (first | (with_reducible assumption) | (with_reducible refine heap_drew1 ?_) | (with_reducible refine heap_drewN1 ?_) | exact heap_at_alloc (by first | rfl | (simp; done) | (simp; omega)) | (with_reducible refine heap_lt_alloc ?_) | (refine heap_near ?_ (by first | rfl | (simp; done))) | (refine heap_far ?_ (by first | (simp; done) | (simp; omega))) | exact blk_below (by assumption) (by assumption))))) (by simp; omega) (ints_C [a0, a1, a2, a3] (by simp) (by (repeat (first | (with_reducible assumption) | (with_reducible refine heap_drew1 ?_) | (with_reducible refine heap_drewN1 ?_) | exact heap_at_alloc (by first | rfl | (simp; done) | (simp; omega)) | (with_reducible refine heap_lt_alloc ?_) | (refine heap_near ?_ (by first | rfl | (simp; done))) | (refine heap_far ?_ (by first | (simp; done) | (simp; omega))) | exact blk_below (by assumption) (by assumption)))))).mono ?_; rintro e w1 ⟨b, QA, qc, rfl, hb1, hF1, hR1, hB1⟩)); (try simp only [Exit.then]); (try simp only [Act.put, List.setIfInBounds_toArray, List.set_cons_succ, List.set_cons_zero]); refine hK _ _ (fun hz0 => by clear hz0 hSk; (repeat (first | with_reducible exact Keep.refl _ _ | (with_reducible refine Keep.left ?_) | (with_reducible refine Keep.leftN ?_) | (with_reducible assumption) | (with_reducible refine Keep.setCell ?_ ?hs _; case hs => (first | (exact .inl rfl) | (simp; done) | (right; omega) | (right; simp; omega))) | (with_reducible refine Keep.allocs ?_ (by simp; done) _) | (with_reducible refine Keep.alloc ?_ _) | (with_reducible refine Keep.drew ?_) | (with_reducible refine Keep.drewN ?_ _) | refine Keep.thenBelow ?_ (by assumption) | refine Keep.grown ?_ (by assumption) (by intro k hk; (first | (cases hk; done) | (exfalso; simp [Value.ownBlock] at hk; done) | (simp [Value.ownBlock] at hk; subst hk; (first | (right; simp; omega) | (left; first | rfl | simp)))) ) | refine Keep.trans ?_ (by assumption) | (with_reducible refine Keep.allocs ?_ (by simp; done) _) | refine Keep.alloc ?_ _ | refine Keep.drew ?_ | refine Keep.drewN ?_ _ | refine Keep.setCell ?_ (by first | (exact .inl rfl) | (simp; done) | (right; omega) | (right; simp; omega)) _))) (fun hSk1 => ?_); clear hK K hSk; replace hSk1 := hSk1 (by decide); have hSk := hSk1; clear hSk1)
    (refine plan_q 5 rfl (by kernel_rfl) (by kernel_rfl) (by kernel_rfl) rfl rfl (fun _ _ _ _ h => h) hSk (by decide) (by kernel_rfl) (fun K hK => ?_); go_big_quiet_op; with_reducible refine hK _ ?_; clear hK K)
    refine plan_e (by kernel_rfl) ?_
    clear hSk
    have S1 := Aside0.mk (show BgSt w 13 a0 a1 a2 a3 84 b QA qc D ⟨0, 0, 2 * ((0 : Nat) : Int), ((0 : Nat) : Int), regs0 [a0, a1, a2, a3], fun _ => 0⟩ w1 from
      ⟨blk_below (by (repeat (first | (with_reducible assumption) | (with_reducible refine heap_drew1 ?_) | (with_reducible refine heap_drewN1 ?_) | exact heap_at_alloc (by first | rfl | (simp; done) | (simp; omega)) | (with_reducible refine heap_lt_alloc ?_) | (refine heap_near ?_ (by first | rfl | (simp; done))) | (refine heap_far ?_ (by first | (simp; done) | (simp; omega))) | exact blk_below (by assumption) (by assumption)))) hB1, blk_below (by (repeat (first | (with_reducible assumption) | (with_reducible refine heap_drew1 ?_) | (with_reducible refine heap_drewN1 ?_) | exact heap_at_alloc (by first | rfl | (simp; done) | (simp; omega)) | (with_reducible refine heap_lt_alloc ?_) | (refine heap_near ?_ (by first | rfl | (simp; done))) | (refine heap_far ?_ (by first | (simp; done) | (simp; omega))) | exact blk_below (by assumption) (by assumption)))) hB1, blk_below (by (repeat (first | (with_reducible assumption) | (with_reducible refine heap_drew1 ?_) | (with_reducible refine heap_drewN1 ?_) | exact heap_at_alloc (by first | rfl | (simp; done) | (simp; omega)) | (with_reducible refine heap_lt_alloc ?_) | (refine heap_near ?_ (by first | rfl | (simp; done))) | (refine heap_far ?_ (by first | (simp; done) | (simp; omega))) | exact blk_below (by assumption) (by assumption)))) hB1, blk_below (by (repeat (first | (with_reducible assumption) | (with_reducible refine heap_drew1 ?_) | (with_reducible refine heap_drewN1 ?_) | exact heap_at_alloc (by first | rfl | (simp; done) | (simp; omega)) | (with_reducible refine heap_lt_alloc ?_) | (refine heap_near ?_ (by first | rfl | (simp; done))) | (refine heap_far ?_ (by first | (simp; done) | (simp; omega))) | exact blk_below (by assumption) (by assumption)))) hB1, hF1, Kd.F_mono (Kd.R_F hR1) (fun k hk => hk), by simp at hb1; omega, by (repeat (first | exact Below.refl _ _ | (with_reducible assumption) | refine below_thenB ?_ (by assumption) | refine below_alloc ?_ _ | refine below_drew ?_ | refine pw_below_drewN ?_ _ | refine Below.setCell ?_ (by first | (simp; done) | omega | (simp; omega)) _))⟩)
    clear hb1 hF1 hR1 hB1 hmk
    go_wp2_with fail
    by_cases h3 : 3 ≤ D
    · refine wp_loop_rounds 1 ?_
      rw [rounds_succ]
      have S2 := Aside0.mk (show BgSt w 13 a0 a1 a2 a3 84 b QA qc D ⟨0, 0, 0, 0, regs0 [a0, a1, a2, a3], fun _ => 0⟩ w1 from S1.out)
      have g2 : decide (3 ≤ (D : Int)) = true := by simp; omega
      clear S1
      by_cases hM0 : 0 < M
      · have g1 : decide ((0 : Int) < (many : Int) % 10) = true := by have := HM.out; simp; omega
        go_wp2_with fail
        refine (S2.out.exec (by omega)).mono ?_
        rw [bg_deep (.inr rfl) D h3]
        rintro e w4 ⟨av4, qv4, rfl, hA4, hQ4, hF4, hK4⟩
        obtain ⟨Aa4, ca4, hav4⟩ := Kd.R_slice hA4
        have hav4 : av4 = .slice Aa4 0 ca4 := hav4
        obtain ⟨Av4, cv4, hqv4⟩ := Kd.R_slice hQ4
        have hqv4 : qv4 = .slice Av4 0 cv4 := hqv4
        subst hav4 hqv4
        have S6 := Aside0.mk (S2.out.step hK4 hF4)
        have d3 : w4.cell? ⟨b, 3, none⟩ = some (.int .i64 0) := blk_cell hF4 3
        have d4 := blk_lt hF4
        clear hA4 hQ4 hF4 hK4 S2
        simp only [effV, failsE]
        go_wp2_with (go_at_call 29; go_must (refine (awake12 _).mono ?_; rintro e w5 ⟨rfl, hb5⟩))
        have hB7 := S6.out.bel
        go_ret
        exact ⟨rfl, by (repeat (first | exact Below.refl _ _ | (with_reducible assumption) | refine below_thenB ?_ (by assumption) | refine below_alloc ?_ _ | refine below_drew ?_ | refine pw_below_drewN ?_ _ | refine Below.setCell ?_ (by first | (simp; done) | omega | (simp; omega)) _))⟩
      · have g1 : decide ((0 : Int) < (many : Int) % 10) = false := by have := HM.out; simp; omega
        go_wp2_with (go_at_call 29; go_must (refine (awake12 _).mono ?_; rintro e w5 ⟨rfl, hb5⟩))
        have hB7 := S2.out.bel
        go_ret
        exact ⟨rfl, by (repeat (first | exact Below.refl _ _ | (with_reducible assumption) | refine below_thenB ?_ (by assumption) | refine below_alloc ?_ _ | refine below_drew ?_ | refine pw_below_drewN ?_ _ | refine Below.setCell ?_ (by first | (simp; done) | omega | (simp; omega)) _))⟩
    go_loopw [11] (fun v wr => ∃ i : Nat, v = .int .i64 i ∧ i ≤ M ∧ BgSt w 13 a0 a1 a2 a3 84 b QA qc D ⟨0, 0, 2 * (i : Int), i, regs0 [a0, a1, a2, a3], fun _ => 0⟩ wr) (fun v _ => M - (intOf v).toNat)
    case atStart => exact ⟨0, rfl, by omega, S1.out⟩
    case round =>
      obtain ⟨i, rfl, hi, hS⟩ := hrel
      have S2 := Aside0.mk hS
      clear hS S1
      by_cases hiM : i < M
      · have g1 : decide ((i : Int) < (many : Int) % 10) = true := by have := HM.out; simp; omega
        go_wp2_with fail
        refine (S2.out.exec (by omega)).mono ?_
        rw [bg_first (.inr rfl) D i (by omega) (by omega), show bgE 13 D i (regs0 [a0, a1, a2, a3]) = ⟨4, 0, 0, 1, 2, 0, [a1, a2, a3], List.replicate D 0 ++ [(i : Int)]⟩ from rfl]
        rintro e w2 ⟨av, qv, rfl, hA, hQ, hF, hK⟩
        obtain ⟨Aa, ca, hav⟩ := Kd.R_slice hA
        have hav : av = .slice Aa 3 ca := hav
        subst hav
        have hQ : Kd.R (Kd.int .i64) 3 w2 _ (fun _ => True) qv (List.replicate D 0 ++ [(i : Int)]) := hQ
        have hA : Kd.R (Kd.int .i64) 2 w2 _ (fun _ => True) (.slice Aa 3 ca) [a1, a2, a3] := hA
        have hql : (List.replicate D (0 : Int) ++ [(i : Int)]).length = D + 1 := by simp
        obtain ⟨gq, cq, hqv, hqc⟩ : ∃ gq cq, qv = .slice (some ⟨gq, 0, none⟩) (D + 1) cq ∧ w2.cell? ⟨gq, D, none⟩ = some (.int .i64 i) := by
          obtain ⟨gq, cq, rfl, -, -, -⟩ := Kd.R_form hQ (by rw [hql]; omega)
          refine ⟨gq, cq, by rw [hql], ?_⟩
          have := (Kd.R_cell (0 : Int) hQ (D : Int) (by omega) (by rw [hql]; omega)).1
          simpa [rdOf, List.getElem?_append_right] using this
        subst hqv
        have S3 := Aside0.mk (S2.out.step hK hF)
        have g2 : decide (3 ≤ (D : Int)) = false := by simp; omega
        have hqlt := World.block_lt_of_cell? w2 ⟨gq, D, none⟩ hqc
        have hC1 := Aside0.mk (Kd.F_now (Kd.R_F hA))
        have hca : 3 ≤ ca := by obtain ⟨A', c', hv, hl⟩ := hA.2.slice_; simp only [Value.slice.injEq] at hv; have : [a1, a2, a3].length = 3 := rfl; omega
        clear hQ hF hK hA S2 hql
        simp only [effV]
        go_wp2_with fail
        have N3 := Aside0.mk (show PFrameBegins.haymowlaw12_numbers.f 5 [a1, a2, a3] [a1, a2, a3] = some true by simp [PFrameBegins.haymowlaw12_numbers.f, PFrameBegins.haymowlaw12_numbers.l0, wrap64])
        have S4 := Aside0.mk (S3.out.below (wy := w2.alloc (.cells #[.int .i64 4, .int .i64 0, .int .i64 0, .int .i64 1, .int .i64 2, .int .i64 0, .slice Aa 3 ca, .slice (some ⟨gq, 0, none⟩) (D + 1) cq] 60)) (by (repeat (first | exact Below.refl _ _ | (with_reducible assumption) | refine below_thenB ?_ (by assumption) | refine below_alloc ?_ _ | refine below_drew ?_ | refine pw_below_drewN ?_ _ | refine Below.setCell ?_ (by first | (simp; done) | omega | (simp; omega)) _))))
        have hC2 := Aside0.mk (ints_C_off 1 [a0] [a1, a2, a3] rfl (by simp) S4.out.ar)
        have hC1 := Aside0.mk (Kd.C_alloc hC1.out (.cells #[.int .i64 4, .int .i64 0, .int .i64 0, .int .i64 1, .int .i64 2, .int .i64 0, .slice Aa 3 ca, .slice (some ⟨gq, 0, none⟩) (D + 1) cq] 60))
        refine plan_begin (fun _ => False) 49 49 rfl (by kernel_rfl) (fun hSk => ?_)
        (refine plan_q 0 rfl (by kernel_rfl) (by kernel_rfl) (by kernel_rfl) rfl rfl (fun _ _ _ _ h => h) hSk (by decide) (by kernel_rfl) (fun K hK => ?_); go_big_quiet_op; with_reducible refine hK _ ?_; clear hK K)
        (refine plan_q 1 rfl (by kernel_rfl) (by kernel_rfl) (by kernel_rfl) rfl rfl (fun _ _ _ _ h => h) hSk (by decide) (by kernel_rfl) (fun K hK => ?_); go_big_quiet_op; with_reducible refine hK _ ?_; clear hK K)
        (refine plan_q 2 rfl (by kernel_rfl) (by kernel_rfl) (by kernel_rfl) rfl rfl (fun _ _ _ _ h => h) hSk (by decide) (by kernel_rfl) (fun K hK => ?_); go_big_quiet_op; with_reducible refine hK _ ?_; clear hK K)
        (refine plan_q 3 rfl (by kernel_rfl) (by kernel_rfl) (by kernel_rfl) rfl rfl (fun _ _ _ _ h => h) hSk (by decide) (by kernel_rfl) (fun K hK => ?_); go_big_quiet_op; with_reducible refine hK _ ?_; clear hK K)
        (refine plan_q 4 rfl (by kernel_rfl) (by kernel_rfl) (by kernel_rfl) rfl rfl (fun _ _ _ _ h => h) hSk (by decide) (by kernel_rfl) (fun K hK => ?_); go_big_quiet_op; with_reducible refine hK _ ?_; clear hK K)
        (refine plan_q 5 rfl (by kernel_rfl) (by kernel_rfl) (by kernel_rfl) rfl rfl (fun _ _ _ _ h => h) hSk (by decide) (by kernel_rfl) (fun K hK => ?_); go_big_quiet_op; with_reducible refine hK _ ?_; clear hK K)
        (refine plan_q 6 rfl (by kernel_rfl) (by kernel_rfl) (by kernel_rfl) rfl rfl (fun _ _ _ _ h => h) hSk (by decide) (by kernel_rfl) (fun K hK => ?_); go_big_quiet_op; with_reducible refine hK _ ?_; clear hK K)
        (first | (refine plan_s 7 rfl (by kernel_rfl) (by kernel_rfl) (by kernel_rfl) rfl (fun _ _ _ _ h => h) hSk (by decide) (by kernel_rfl) rfl ?_) | (refine plan_q 7 rfl (by kernel_rfl) (by kernel_rfl) (by kernel_rfl) rfl rfl (fun _ _ _ _ h => h) hSk (by decide) (by kernel_rfl) (fun K hK => ?_); go_big_quiet_op; with_reducible refine hK _ ?_; clear hK K))
        (first | (refine plan_s 8 rfl (by kernel_rfl) (by kernel_rfl) (by kernel_rfl) rfl (fun _ _ _ _ h => h) hSk (by decide) (by kernel_rfl) rfl ?_) | (refine plan_q 8 rfl (by kernel_rfl) (by kernel_rfl) (by kernel_rfl) rfl rfl (fun _ _ _ _ h => h) hSk (by decide) (by kernel_rfl) (fun K hK => ?_); go_big_quiet_op; with_reducible refine hK _ ?_; clear hK K))
        (first | (refine plan_s 9 rfl (by kernel_rfl) (by kernel_rfl) (by kernel_rfl) rfl (fun _ _ _ _ h => h) hSk (by decide) (by kernel_rfl) rfl ?_) | (refine plan_q 9 rfl (by kernel_rfl) (by kernel_rfl) (by kernel_rfl) rfl rfl (fun _ _ _ _ h => h) hSk (by decide) (by kernel_rfl) (fun K hK => ?_); go_big_quiet_op; with_reducible refine hK _ ?_; clear hK K))
        (first | (refine plan_s 10 rfl (by kernel_rfl) (by kernel_rfl) (by kernel_rfl) rfl (fun _ _ _ _ h => h) hSk (by decide) (by kernel_rfl) rfl ?_) | (refine plan_q 10 rfl (by kernel_rfl) (by kernel_rfl) (by kernel_rfl) rfl rfl (fun _ _ _ _ h => h) hSk (by decide) (by kernel_rfl) (fun K hK => ?_); go_big_quiet_op; with_reducible refine hK _ ?_; clear hK K))
        (first | (refine plan_s 11 rfl (by kernel_rfl) (by kernel_rfl) (by kernel_rfl) rfl (fun _ _ _ _ h => h) hSk (by decide) (by kernel_rfl) rfl ?_) | (refine plan_q 11 rfl (by kernel_rfl) (by kernel_rfl) (by kernel_rfl) rfl rfl (fun _ _ _ _ h => h) hSk (by decide) (by kernel_rfl) (fun K hK => ?_); go_big_quiet_op; with_reducible refine hK _ ?_; clear hK K))
        (first | (refine plan_s 12 rfl (by kernel_rfl) (by kernel_rfl) (by kernel_rfl) rfl (fun _ _ _ _ h => h) hSk (by decide) (by kernel_rfl) rfl ?_) | (refine plan_q 12 rfl (by kernel_rfl) (by kernel_rfl) (by kernel_rfl) rfl rfl (fun _ _ _ _ h => h) hSk (by decide) (by kernel_rfl) (fun K hK => ?_); go_big_quiet_op; with_reducible refine hK _ ?_; clear hK K))
        (first | (refine plan_s 13 rfl (by kernel_rfl) (by kernel_rfl) (by kernel_rfl) rfl (fun _ _ _ _ h => h) hSk (by decide) (by kernel_rfl) rfl ?_) | (refine plan_q 13 rfl (by kernel_rfl) (by kernel_rfl) (by kernel_rfl) rfl rfl (fun _ _ _ _ h => h) hSk (by decide) (by kernel_rfl) (fun K hK => ?_); go_big_quiet_op; with_reducible refine hK _ ?_; clear hK K))
        (refine plan_q 14 rfl (by kernel_rfl) (by kernel_rfl) (by kernel_rfl) rfl rfl (fun _ _ _ _ h => h) hSk (by decide) (by kernel_rfl) (fun K hK => ?_); go_big_quiet_op; with_reducible refine hK _ ?_; clear hK K)
        (refine plan_q 15 rfl (by kernel_rfl) (by kernel_rfl) (by kernel_rfl) rfl rfl (fun _ _ _ _ h => h) hSk (by decide) (by kernel_rfl) (fun K hK => ?_); go_big_quiet_op; with_reducible refine hK _ ?_; clear hK K)
        (first | (refine plan_s 16 rfl (by kernel_rfl) (by kernel_rfl) (by kernel_rfl) rfl (fun _ _ _ _ h => h) hSk (by decide) (by kernel_rfl) rfl ?_) | (refine plan_q 16 rfl (by kernel_rfl) (by kernel_rfl) (by kernel_rfl) rfl rfl (fun _ _ _ _ h => h) hSk (by decide) (by kernel_rfl) (fun K hK => ?_); go_big_quiet_op; with_reducible refine hK _ ?_; clear hK K))
        (first | (refine plan_s 17 rfl (by kernel_rfl) (by kernel_rfl) (by kernel_rfl) rfl (fun _ _ _ _ h => h) hSk (by decide) (by kernel_rfl) rfl ?_) | (refine plan_q 17 rfl (by kernel_rfl) (by kernel_rfl) (by kernel_rfl) rfl rfl (fun _ _ _ _ h => h) hSk (by decide) (by kernel_rfl) (fun K hK => ?_); go_big_quiet_op; with_reducible refine hK _ ?_; clear hK K))
        (first | (refine plan_s 18 rfl (by kernel_rfl) (by kernel_rfl) (by kernel_rfl) rfl (fun _ _ _ _ h => h) hSk (by decide) (by kernel_rfl) rfl ?_) | (refine plan_q 18 rfl (by kernel_rfl) (by kernel_rfl) (by kernel_rfl) rfl rfl (fun _ _ _ _ h => h) hSk (by decide) (by kernel_rfl) (fun K hK => ?_); go_big_quiet_op; with_reducible refine hK _ ?_; clear hK K))
        (refine plan_l 19 rfl (by kernel_rfl) (fun K hK => ?_); go_wp2_with (go_at_call 32; go_must (refine (PFrameBegins.haymowlaw12_numbers.calls 5 _ _ [a1, a2, a3] _ _ [a1, a2, a3] true _ (Kd.C_drew hC1.out) hca (Kd.C_drew hC2.out) (by simp) N3.out).mono ?_; rintro e w3 ⟨rfl, hD3⟩; (have hB3 := hD3.below))); (try simp only [Exit.then]); (try simp only [Act.put, List.setIfInBounds_toArray, List.set_cons_succ, List.set_cons_zero]); refine hK _ _ (fun hz0 => by clear hz0 hSk; (repeat (first | with_reducible exact Keep.refl _ _ | (with_reducible refine Keep.left ?_) | (with_reducible refine Keep.leftN ?_) | (with_reducible assumption) | (with_reducible refine Keep.setCell ?_ ?hs _; case hs => (first | (exact .inl rfl) | (simp; done) | (right; omega) | (right; simp; omega))) | (with_reducible refine Keep.allocs ?_ (by simp; done) _) | (with_reducible refine Keep.alloc ?_ _) | (with_reducible refine Keep.drew ?_) | (with_reducible refine Keep.drewN ?_ _) | refine Keep.thenBelow ?_ (by assumption) | refine Keep.grown ?_ (by assumption) (by intro k hk; (first | (cases hk; done) | (exfalso; simp [Value.ownBlock] at hk; done) | (simp [Value.ownBlock] at hk; subst hk; (first | (right; simp; omega) | (left; first | rfl | simp)))) ) | refine Keep.trans ?_ (by assumption) | (with_reducible refine Keep.allocs ?_ (by simp; done) _) | refine Keep.alloc ?_ _ | refine Keep.drew ?_ | refine Keep.drewN ?_ _ | refine Keep.setCell ?_ (by first | (exact .inl rfl) | (simp; done) | (right; omega) | (right; simp; omega)) _))) (fun hSk1 => ?_); clear hK K hSk; replace hSk1 := hSk1 (by decide); have hSk := hSk1; clear hSk1)
        (first | (refine plan_s 20 rfl (by kernel_rfl) (by kernel_rfl) (by kernel_rfl) rfl (fun _ _ _ _ h => h) hSk (by decide) (by kernel_rfl) rfl ?_) | (refine plan_q 20 rfl (by kernel_rfl) (by kernel_rfl) (by kernel_rfl) rfl rfl (fun _ _ _ _ h => h) hSk (by decide) (by kernel_rfl) (fun K hK => ?_); go_big_quiet_op; with_reducible refine hK _ ?_; clear hK K))
        (refine plan_q 21 rfl (by kernel_rfl) (by kernel_rfl) (by kernel_rfl) rfl rfl (fun _ _ _ _ h => h) hSk (by decide) (by kernel_rfl) (fun K hK => ?_); go_big_quiet_op; with_reducible refine hK _ ?_; clear hK K)
        (refine plan_q 22 rfl (by kernel_rfl) (by kernel_rfl) (by kernel_rfl) rfl rfl (fun _ _ _ _ h => h) hSk (by decide) (by kernel_rfl) (fun K hK => ?_); go_big_quiet_op; with_reducible refine hK _ ?_; clear hK K)
        (first | (refine plan_s 23 rfl (by kernel_rfl) (by kernel_rfl) (by kernel_rfl) rfl (fun _ _ _ _ h => h) hSk (by decide) (by kernel_rfl) rfl ?_) | (refine plan_q 23 rfl (by kernel_rfl) (by kernel_rfl) (by kernel_rfl) rfl rfl (fun _ _ _ _ h => h) hSk (by decide) (by kernel_rfl) (fun K hK => ?_); go_big_quiet_op; with_reducible refine hK _ ?_; clear hK K))
        (first | (refine plan_s 24 rfl (by kernel_rfl) (by kernel_rfl) (by kernel_rfl) rfl (fun _ _ _ _ h => h) hSk (by decide) (by kernel_rfl) rfl ?_) | (refine plan_q 24 rfl (by kernel_rfl) (by kernel_rfl) (by kernel_rfl) rfl rfl (fun _ _ _ _ h => h) hSk (by decide) (by kernel_rfl) (fun K hK => ?_); go_big_quiet_op; with_reducible refine hK _ ?_; clear hK K))
        (first | (refine plan_s 25 rfl (by kernel_rfl) (by kernel_rfl) (by kernel_rfl) rfl (fun _ _ _ _ h => h) hSk (by decide) (by kernel_rfl) rfl ?_) | (refine plan_q 25 rfl (by kernel_rfl) (by kernel_rfl) (by kernel_rfl) rfl rfl (fun _ _ _ _ h => h) hSk (by decide) (by kernel_rfl) (fun K hK => ?_); go_big_quiet_op; with_reducible refine hK _ ?_; clear hK K))
        (refine plan_q 26 rfl (by kernel_rfl) (by kernel_rfl) (by kernel_rfl) rfl rfl (fun _ _ _ _ h => h) hSk (by decide) (by kernel_rfl) (fun K hK => ?_); go_big_quiet_op; with_reducible refine hK _ ?_; clear hK K)
        (refine plan_q 27 rfl (by kernel_rfl) (by kernel_rfl) (by kernel_rfl) rfl rfl (fun _ _ _ _ h => h) hSk (by decide) (by kernel_rfl) (fun K hK => ?_); go_big_quiet_op; with_reducible refine hK _ ?_; clear hK K)
        (first | (refine plan_s 28 rfl (by kernel_rfl) (by kernel_rfl) (by kernel_rfl) rfl (fun _ _ _ _ h => h) hSk (by decide) (by kernel_rfl) rfl ?_) | (refine plan_q 28 rfl (by kernel_rfl) (by kernel_rfl) (by kernel_rfl) rfl rfl (fun _ _ _ _ h => h) hSk (by decide) (by kernel_rfl) (fun K hK => ?_); go_big_quiet_op; with_reducible refine hK _ ?_; clear hK K))
        (first | (refine plan_s 29 rfl (by kernel_rfl) (by kernel_rfl) (by kernel_rfl) rfl (fun _ _ _ _ h => h) hSk (by decide) (by kernel_rfl) rfl ?_) | (refine plan_q 29 rfl (by kernel_rfl) (by kernel_rfl) (by kernel_rfl) rfl rfl (fun _ _ _ _ h => h) hSk (by decide) (by kernel_rfl) (fun K hK => ?_); go_big_quiet_op; with_reducible refine hK _ ?_; clear hK K))
        (first | (refine plan_s 30 rfl (by kernel_rfl) (by kernel_rfl) (by kernel_rfl) rfl (fun _ _ _ _ h => h) hSk (by decide) (by kernel_rfl) rfl ?_) | (refine plan_q 30 rfl (by kernel_rfl) (by kernel_rfl) (by kernel_rfl) rfl rfl (fun _ _ _ _ h => h) hSk (by decide) (by kernel_rfl) (fun K hK => ?_); go_big_quiet_op; with_reducible refine hK _ ?_; clear hK K))
        (first | (refine plan_s 31 rfl (by kernel_rfl) (by kernel_rfl) (by kernel_rfl) rfl (fun _ _ _ _ h => h) hSk (by decide) (by kernel_rfl) rfl ?_) | (refine plan_q 31 rfl (by kernel_rfl) (by kernel_rfl) (by kernel_rfl) rfl rfl (fun _ _ _ _ h => h) hSk (by decide) (by kernel_rfl) (fun K hK => ?_); go_big_quiet_op; with_reducible refine hK _ ?_; clear hK K))
        (first | (refine plan_s 32 rfl (by kernel_rfl) (by kernel_rfl) (by kernel_rfl) rfl (fun _ _ _ _ h => h) hSk (by decide) (by kernel_rfl) rfl ?_) | (refine plan_q 32 rfl (by kernel_rfl) (by kernel_rfl) (by kernel_rfl) rfl rfl (fun _ _ _ _ h => h) hSk (by decide) (by kernel_rfl) (fun K hK => ?_); go_big_quiet_op; with_reducible refine hK _ ?_; clear hK K))
        (refine plan_q 33 rfl (by kernel_rfl) (by kernel_rfl) (by kernel_rfl) rfl rfl (fun _ _ _ _ h => h) hSk (by decide) (by kernel_rfl) (fun K hK => ?_); go_big_quiet_op; with_reducible refine hK _ ?_; clear hK K)
        (refine plan_q 34 rfl (by kernel_rfl) (by kernel_rfl) (by kernel_rfl) rfl rfl (fun _ _ _ _ h => h) hSk (by decide) (by kernel_rfl) (fun K hK => ?_); go_big_quiet_op; with_reducible refine hK _ ?_; clear hK K)
        (first | (refine plan_s 35 rfl (by kernel_rfl) (by kernel_rfl) (by kernel_rfl) rfl (fun _ _ _ _ h => h) hSk (by decide) (by kernel_rfl) rfl ?_) | (refine plan_q 35 rfl (by kernel_rfl) (by kernel_rfl) (by kernel_rfl) rfl rfl (fun _ _ _ _ h => h) hSk (by decide) (by kernel_rfl) (fun K hK => ?_); go_big_quiet_op; with_reducible refine hK _ ?_; clear hK K))
        (first | (refine plan_s 36 rfl (by kernel_rfl) (by kernel_rfl) (by kernel_rfl) rfl (fun _ _ _ _ h => h) hSk (by decide) (by kernel_rfl) rfl ?_) | (refine plan_q 36 rfl (by kernel_rfl) (by kernel_rfl) (by kernel_rfl) rfl rfl (fun _ _ _ _ h => h) hSk (by decide) (by kernel_rfl) (fun K hK => ?_); go_big_quiet_op; with_reducible refine hK _ ?_; clear hK K))
        (first | (refine plan_s 37 rfl (by kernel_rfl) (by kernel_rfl) (by kernel_rfl) rfl (fun _ _ _ _ h => h) hSk (by decide) (by kernel_rfl) rfl ?_) | (refine plan_q 37 rfl (by kernel_rfl) (by kernel_rfl) (by kernel_rfl) rfl rfl (fun _ _ _ _ h => h) hSk (by decide) (by kernel_rfl) (fun K hK => ?_); go_big_quiet_op; with_reducible refine hK _ ?_; clear hK K))
        (first | (refine plan_s 38 rfl (by kernel_rfl) (by kernel_rfl) (by kernel_rfl) rfl (fun _ _ _ _ h => h) hSk (by decide) (by kernel_rfl) rfl ?_) | (refine plan_q 38 rfl (by kernel_rfl) (by kernel_rfl) (by kernel_rfl) rfl rfl (fun _ _ _ _ h => h) hSk (by decide) (by kernel_rfl) (fun K hK => ?_); go_big_quiet_op; with_reducible refine hK _ ?_; clear hK K))
        (first | (refine plan_s 39 rfl (by kernel_rfl) (by kernel_rfl) (by kernel_rfl) rfl (fun _ _ _ _ h => h) hSk (by decide) (by kernel_rfl) rfl ?_) | (refine plan_q 39 rfl (by kernel_rfl) (by kernel_rfl) (by kernel_rfl) rfl rfl (fun _ _ _ _ h => h) hSk (by decide) (by kernel_rfl) (fun K hK => ?_); go_big_quiet_op; with_reducible refine hK _ ?_; clear hK K))
        (refine plan_q 40 rfl (by kernel_rfl) (by kernel_rfl) (by kernel_rfl) rfl rfl (fun _ _ _ _ h => h) hSk (by decide) (by kernel_rfl) (fun K hK => ?_); go_big_quiet_op; with_reducible refine hK _ ?_; clear hK K)
        (refine plan_q 41 rfl (by kernel_rfl) (by kernel_rfl) (by kernel_rfl) rfl rfl (fun _ _ _ _ h => h) hSk (by decide) (by kernel_rfl) (fun K hK => ?_); go_big_quiet_op; with_reducible refine hK _ ?_; clear hK K)
        (first | (refine plan_s 42 rfl (by kernel_rfl) (by kernel_rfl) (by kernel_rfl) rfl (fun _ _ _ _ h => h) hSk (by decide) (by kernel_rfl) rfl ?_) | (refine plan_q 42 rfl (by kernel_rfl) (by kernel_rfl) (by kernel_rfl) rfl rfl (fun _ _ _ _ h => h) hSk (by decide) (by kernel_rfl) (fun K hK => ?_); go_big_quiet_op; with_reducible refine hK _ ?_; clear hK K))
        (first | (refine plan_s 43 rfl (by kernel_rfl) (by kernel_rfl) (by kernel_rfl) rfl (fun _ _ _ _ h => h) hSk (by decide) (by kernel_rfl) rfl ?_) | (refine plan_q 43 rfl (by kernel_rfl) (by kernel_rfl) (by kernel_rfl) rfl rfl (fun _ _ _ _ h => h) hSk (by decide) (by kernel_rfl) (fun K hK => ?_); go_big_quiet_op; with_reducible refine hK _ ?_; clear hK K))
        (first | (refine plan_s 44 rfl (by kernel_rfl) (by kernel_rfl) (by kernel_rfl) rfl (fun _ _ _ _ h => h) hSk (by decide) (by kernel_rfl) rfl ?_) | (refine plan_q 44 rfl (by kernel_rfl) (by kernel_rfl) (by kernel_rfl) rfl rfl (fun _ _ _ _ h => h) hSk (by decide) (by kernel_rfl) (fun K hK => ?_); go_big_quiet_op; with_reducible refine hK _ ?_; clear hK K))
        (first | (refine plan_s 45 rfl (by kernel_rfl) (by kernel_rfl) (by kernel_rfl) rfl (fun _ _ _ _ h => h) hSk (by decide) (by kernel_rfl) rfl ?_) | (refine plan_q 45 rfl (by kernel_rfl) (by kernel_rfl) (by kernel_rfl) rfl rfl (fun _ _ _ _ h => h) hSk (by decide) (by kernel_rfl) (fun K hK => ?_); go_big_quiet_op; with_reducible refine hK _ ?_; clear hK K))
        (first | (refine plan_s 46 rfl (by kernel_rfl) (by kernel_rfl) (by kernel_rfl) rfl (fun _ _ _ _ h => h) hSk (by decide) (by kernel_rfl) rfl ?_) | (refine plan_q 46 rfl (by kernel_rfl) (by kernel_rfl) (by kernel_rfl) rfl rfl (fun _ _ _ _ h => h) hSk (by decide) (by kernel_rfl) (fun K hK => ?_); go_big_quiet_op; with_reducible refine hK _ ?_; clear hK K))
        (first | (refine plan_s 47 rfl (by kernel_rfl) (by kernel_rfl) (by kernel_rfl) rfl (fun _ _ _ _ h => h) hSk (by decide) (by kernel_rfl) rfl ?_) | (refine plan_q 47 rfl (by kernel_rfl) (by kernel_rfl) (by kernel_rfl) rfl rfl (fun _ _ _ _ h => h) hSk (by decide) (by kernel_rfl) (fun K hK => ?_); go_big_quiet_op; with_reducible refine hK _ ?_; clear hK K))
        (refine plan_q 48 rfl (by kernel_rfl) (by kernel_rfl) (by kernel_rfl) rfl rfl (fun _ _ _ _ h => h) hSk (by decide) (by kernel_rfl) (fun K hK => ?_); go_big_quiet_op; with_reducible refine hK _ ?_; clear hK K)
        refine plan_e (by kernel_rfl) ?_
        clear hSk
        have S5 := Aside0.mk (S4.out.below (wy := w3) (by (repeat (first | exact Below.refl _ _ | (with_reducible assumption) | refine below_thenB ?_ (by assumption) | refine below_alloc ?_ _ | refine below_drew ?_ | refine pw_below_drewN ?_ _ | refine Below.setCell ?_ (by first | (simp; done) | omega | (simp; omega)) _))))
        clear hC1 hC2 N3 S4 S3 hD3 hB3 hqc hqlt
        go_wp2_with fail
        refine (S5.out.exec (by omega)).mono ?_
        rw [bg_second (.inr rfl) D i (by omega)]
        rintro e w4 ⟨av4, qv4, rfl, hA4, hQ4, hF4, hK4⟩
        obtain ⟨Aa4, ca4, hav4⟩ := Kd.R_slice hA4
        have hav4 : av4 = .slice Aa4 0 ca4 := hav4
        obtain ⟨Av4, cv4, hqv4⟩ := Kd.R_slice hQ4
        have hqv4 : qv4 = .slice Av4 0 cv4 := hqv4
        subst hav4 hqv4
        have S6 := Aside0.mk (S5.out.step hK4 hF4)
        have d3 : w4.cell? ⟨b, 3, none⟩ = some (.int .i64 ((i : Int) + 1)) := blk_cell hF4 3
        have d4 := blk_lt hF4
        clear hA4 hQ4 hF4 hK4 S5
        simp only [effV, goesE]
        go_wp2_with fail
        go_roundw
        case rel => exact ⟨i + 1, by go_num, by omega, S6.out.below (by (repeat (first | exact Below.refl _ _ | (with_reducible assumption) | refine below_thenB ?_ (by assumption) | refine below_alloc ?_ _ | refine below_drew ?_ | refine pw_below_drewN ?_ _ | refine Below.setCell ?_ (by first | (simp; done) | omega | (simp; omega)) _)))⟩
        case measure => simp [intOf]; omega
      · have g1 : decide ((i : Int) < (many : Int) % 10) = false := by have := HM.out; simp; omega
        go_wp2_with (go_at_call 29; go_must (refine (awake12 _).mono ?_; rintro e w4 ⟨rfl, hb4⟩))
        have hB5 := S2.out.bel
        go_ret
        exact ⟨rfl, by (repeat (first | exact Below.refl _ _ | (with_reducible assumption) | refine below_thenB ?_ (by assumption) | refine below_alloc ?_ _ | refine below_drew ?_ | refine pw_below_drewN ?_ _ | refine Below.setCell ?_ (by first | (simp; done) | omega | (simp; omega)) _))⟩
end Go.Proofs.Ytimmglnbjgbbjaa
