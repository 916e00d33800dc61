/- The law FrameJumps, walked. No conditions. -/
import Derived.Test.YtimmglnbjgbbjaaJumps1
import Derived.Test.YtimmglnbjgbbjaaAwake
set_option linter.unusedSimpArgs false
set_option linter.unusedVariables false
namespace Go.Proofs.Ytimmglnbjgbbjaa
open Go.RowKit Go.Proofs.YtimmglnbjgbbjaaW.PrintWords
set_option maxRecDepth 20000 in
set_option maxHeartbeats 1600000 in
theorem jumps_any (n : Int) (many tt : Nat) (hm : many ≤ 255) (ht : tt ≤ 255) (pl : Bool) (w : World) :
    Calls Try.prog 10 #[.agg #[.int .i64 n, .int .u8 many, .int .u8 tt, .bool pl]] w fun e w' => e = .returned (.bool true) ∧ Below w.heap.size w w' := by
  rcases (show pl = true ∨ (pl = false ∧ n = 0) ∨ (pl = false ∧ ¬ n = 0) by cases pl <;> simp; omega) with h | ⟨h, hn⟩ | ⟨h, hn⟩
  ·
    subst h
    have m0 : (0 : Int) ≤ (many : Int) := by omega
    have o0 : (0 : Int) ≤ (tt : Int) := by omega
    have m1 : (many : Int) ≤ 255 := by omega
    have o1 : (tt : Int) ≤ 255 := by omega
    go_enter Try.func10, Try.ntmps10
    go_wp2_with fail
    refine plan_begin (fun _ => False) 12 12 rfl (by kernel_rfl) (fun hSk => ?_)
    (refine plan_q 0 rfl (by kernel_rfl) (by kernel_rfl) (by kernel_rfl) rfl rfl (fun _ _ _ _ h => h) hSk (by decide) (by kernel_rfl) (fun K hK => ?_); go_big_quiet_op; with_reducible refine hK _ ?_; clear hK K)
    (refine plan_q 1 rfl (by kernel_rfl) (by kernel_rfl) (by kernel_rfl) rfl rfl (fun _ _ _ _ h => h) hSk (by decide) (by kernel_rfl) (fun K hK => ?_); go_big_quiet_op; with_reducible refine hK _ ?_; clear hK K)
    (refine plan_q 2 rfl (by kernel_rfl) (by kernel_rfl) (by kernel_rfl) rfl rfl (fun _ _ _ _ h => h) hSk (by decide) (by kernel_rfl) (fun K hK => ?_); go_big_quiet_op; with_reducible refine hK _ ?_; clear hK K)
    (refine plan_q 3 rfl (by kernel_rfl) (by kernel_rfl) (by kernel_rfl) rfl rfl (fun _ _ _ _ h => h) hSk (by decide) (by kernel_rfl) (fun K hK => ?_); go_big_quiet_op; with_reducible refine hK _ ?_; clear hK K)
    (refine plan_q 4 rfl (by kernel_rfl) (by kernel_rfl) (by kernel_rfl) rfl rfl (fun _ _ _ _ h => h) hSk (by decide) (by kernel_rfl) (fun K hK => ?_); go_big_quiet_op; with_reducible refine hK _ ?_; clear hK K)
    (refine plan_q 5 rfl (by kernel_rfl) (by kernel_rfl) (by kernel_rfl) rfl rfl (fun _ _ _ _ h => h) hSk (by decide) (by kernel_rfl) (fun K hK => ?_); go_big_quiet_op; with_reducible refine hK _ ?_; clear hK K)
    (refine plan_q 6 rfl (by kernel_rfl) (by kernel_rfl) (by kernel_rfl) rfl rfl (fun _ _ _ _ h => h) hSk (by decide) (by kernel_rfl) (fun K hK => ?_); go_big_quiet_op; with_reducible refine hK _ ?_; clear hK K)
    (refine plan_q 7 rfl (by kernel_rfl) (by kernel_rfl) (by kernel_rfl) rfl rfl (fun _ _ _ _ h => h) hSk (by decide) (by kernel_rfl) (fun K hK => ?_); go_big_quiet_op; with_reducible refine hK _ ?_; clear hK K)
    (refine plan_q 8 rfl (by kernel_rfl) (by kernel_rfl) (by kernel_rfl) rfl rfl (fun _ _ _ _ h => h) hSk (by decide) (by kernel_rfl) (fun K hK => ?_); go_big_quiet_op; with_reducible refine hK _ ?_; clear hK K)
    (refine plan_q 9 rfl (by kernel_rfl) (by kernel_rfl) (by kernel_rfl) rfl rfl (fun _ _ _ _ h => h) hSk (by decide) (by kernel_rfl) (fun K hK => ?_); go_big_quiet_op; with_reducible refine hK _ ?_; clear hK K)
    (refine plan_q 10 rfl (by kernel_rfl) (by kernel_rfl) (by kernel_rfl) rfl rfl (fun _ _ _ _ h => h) hSk (by decide) (by kernel_rfl) (fun K hK => ?_); go_big_quiet_op; with_reducible refine hK _ ?_; clear hK K)
    (refine plan_q 11 rfl (by kernel_rfl) (by kernel_rfl) (by kernel_rfl) rfl rfl (fun _ _ _ _ h => h) hSk (by decide) (by kernel_rfl) (fun K hK => ?_); go_big_quiet_op; with_reducible refine hK _ ?_; clear hK K)
    refine plan_e (by kernel_rfl) ?_
    clear hSk
    go_wp2_with fail
    obtain ⟨J, hJ⟩ : ∃ J : Nat, (many : Int) % 60 + 2 = (J : Int) + 1 := ⟨many % 60 + 1, by omega⟩
    have J1 : 1 ≤ J := by omega
    have J2 : J ≤ 60 := by omega
    rw [hJ]
    obtain ⟨T, hT⟩ : ∃ T : Int, (tt : Int) % ((J : Int) + 1) = T := ⟨_, rfl⟩
    have T0 : 0 ≤ T := by rw [← hT]; exact Int.emod_nonneg _ (by omega)
    have T1 : T ≤ J := by have := Int.emod_lt_of_pos (tt : Int) (show (0 : Int) < (J : Int) + 1 by omega); omega
    rw [hT]
    clear hJ hT m0 o0 m1 o1 hm ht
    have hlen : ∀ j : Nat, (jumpC (⟨9, 0, 0, 0, T⟩ : In) j).length = j + 1 := fun j => by simp [jumpC]
    have HLEN := Aside0.mk hlen
    clear hlen
    obtain ⟨X, hX⟩ : ∃ X, X = (((w.alloc (.cells #[.int .i64 n, .int .u8 many, .int .u8 tt, .bool true] 82)).alloc (.cells (inCells (⟨9, 0, 0, 0, T⟩ : In)).toArray 24)).alloc (.cells (inCells (⟨9, 0, 0, 0, T⟩ : In)).toArray 24)).drew := ⟨_, rfl⟩
    have hXB : Below w.heap.size w X := by rw [hX]; (repeat (first | exact Below.refl _ _ | (with_reducible assumption) | refine below_thenB ?_ (by assumption) | refine below_alloc ?_ _ | refine below_drew ?_ | refine pw_below_drewN ?_ _ | refine Below.setCell ?_ (by first | (simp; done) | omega | (simp; omega)) _))
    have hXR : Kd.R kIn 24 X w.heap.size (fun _ => True) (.slice (some ⟨w.heap.size + 1 + 1, 0, none⟩) 1 1) (jumpC (⟨9, 0, 0, 0, T⟩ : In) 0) := code_R (jumpC (⟨9, 0, 0, 0, T⟩ : In) 0) (cs := (inCells (⟨9, 0, 0, 0, T⟩ : In)).toArray) (by rw [hX]; exact heap_drew1 (heap_at_alloc (by simp))) rfl (by omega) (by simp [jumpC])
    unfold inCells at hX
    rw [← hX]
    clear hX
    have HXR := Aside0.mk hXR
    clear hXR
    go_loopw [10] (fun v wr => ∃ j : Nat, j ≤ J ∧ Kd.R kIn 24 wr w.heap.size (fun _ => True) v (jumpC (⟨9, 0, 0, 0, T⟩ : In) j) ∧ Below w.heap.size w wr) (fun v _ => match v with | .slice _ n _ => J + 1 - n | _ => 0)
    case atStart => exact ⟨0, by omega, HXR.out, hXB⟩
    case round =>
      obtain ⟨j, hj, hR, hB⟩ := hrel
      obtain ⟨A1, c1, rfl⟩ := Kd.R_slice hR
      rw [HLEN.out] at hR ⊢
      have HRR := Aside0.mk hR
      clear hR HXR hXB
      by_cases hjJ : j < J
      · go_wp2_with (at_builtin; go_must (refine Kd.R_append_rows kIn (Rr := fun (x : In) cs => cs = inCells x) (w0 := w) w.heap.size rfl _ _ 25 24 (.agg #[.int .i64 0, .int .i64 0, .int .i64 0, .int .i64 0, .int .i64 0]) 40 rfl Try.underlying25 info_in rfl (by decide) (by decide) (.slice A1 (j + 1) c1) (jumpC (⟨9, 0, 0, 0, T⟩ : In) j) [retI] (some ⟨_, 0, none⟩) 1 1 (fun _ => True) (fun _ => False) rfl rfl (Kd.R_alloc HRR.out _) (one_in retI (heap_alloc_new _ _)) (fun x cs h => h ▸ kIn_mkM _ _ _ _) (fun _ h => h.elim) (fun _ _ => trivial) (by (repeat (first | exact Below.refl _ _ | (with_reducible assumption) | refine below_thenB ?_ (by assumption) | refine below_alloc ?_ _ | refine below_drew ?_ | refine pw_below_drewN ?_ _ | refine Below.setCell ?_ (by first | (simp; done) | omega | (simp; omega)) _))) (by have := hB.size; simp; omega) (by rw [HLEN.out]; omega) ?_; intro v1 w1 hR1 hB1 hG1 hO1; rw [← jump_snoc] at hR1; (have hv := Kd.R_slice hR1); rw [HLEN.out] at hv; (obtain ⟨A2, c2, rfl⟩ := hv)))
        go_roundw
        case rel => exact ⟨j + 1, by omega, hR1, hB1⟩
        case measure => simp; omega
      · obtain rfl : j = J := by omega
        go_wp2_with fail
        refine (new_any 0 none 0 [] (some ⟨wr.heap.size, 0, none⟩) 4 [0, 0, 0, n] (fun _ => 0) _ (Kd.C_nil _ _) (by simp) (ints_C [0, 0, 0, n] (by simp) (heap_alloc_new _ _))).mono ?_
        rintro e w2 ⟨b, QA, qc, rfl, hb1, hF2, -, hb2⟩
        have hE : execP [⟨4, jumpC (⟨9, 0, 0, 0, T⟩ : In) j⟩] 9 0 [] ⟨0, 0, 0, 0, regs0 [0, 0, 0, n], fun _ => 0⟩ = (goesE, 0, ⟨0, T, 1, 0, regs0 [0, 0, 0, n], fun _ => 0⟩) := by
          rw [jump_exec (⟨9, 0, 0, 0, T⟩ : In) j J1 J2 (jump_ok9 j T T0 T1) [0, 0, 0, n], show doP [⟨4, jumpC (⟨9, 0, 0, 0, T⟩ : In) j⟩] 0 [] (⟨9, 0, 0, 0, T⟩ : In) ⟨0, 1, 1, 0, regs0 [0, 0, 0, n], fun _ => 0⟩ = (goesE, ⟨0, T, 1, 0, regs0 [0, 0, 0, n], fun _ => 0⟩) from by simp [doP]]
        have hCF : Kd.F kIn wr (fun k => k < wr.heap.size) A1 (j + 1) (jumpC (⟨9, 0, 0, 0, T⟩ : In) j) := Kd.R_F (Kd.R_mono (Kd.R_bound HRR.out) (fun k hk => hk.2.2.1))
        have hcl : (jumpC (⟨9, 0, 0, 0, T⟩ : In) j).length = j + 1 := HLEN.out j
        have hbw : w.heap.size ≤ wr.heap.size := hB.size
        have hcc : j + 1 ≤ c1 := by obtain ⟨A', c', hv, hl⟩ := HRR.out.2.slice_; simp only [Value.slice.injEq] at hv; omega
        have hCW : Kd.F kIn w2 (fun k => k < wr.heap.size) A1 (j + 1) (jumpC (⟨9, 0, 0, 0, T⟩ : In) j) := Kd.F_below (Kd.F_alloc hCF _) hb2
        have hlt := blk_lt hF2
        simp at hb1
        have HCW := Aside0.mk hCW
        have HE := Aside0.mk hE
        have HF2 := Aside0.mk hF2
        have HCL := Aside0.mk hcl
        have hBB : Below w.heap.size w w2 := by (repeat (first | exact Below.refl _ _ | (with_reducible assumption) | refine below_thenB ?_ (by assumption) | refine below_alloc ?_ _ | refine below_drew ?_ | refine pw_below_drewN ?_ _ | refine Below.setCell ?_ (by first | (simp; done) | omega | (simp; omega)) _))
        clear hE hCF hCW hF2 hB HRR HLEN hcl
        go_wp2_with fail
        refine (exec_any (some ⟨w2.heap.size, 0, none⟩) 1 [⟨4, jumpC (⟨9, 0, 0, 0, T⟩ : In) j⟩] 9 0 _ b (prog_F [⟨4, jumpC (⟨9, 0, 0, 0, T⟩ : In) j⟩] (heap_alloc_new _ _) (by omega) (by simp) (fun i q hq => by
          match i, hq with
          | 0, hq =>
            obtain rfl := Option.some.inj hq
            refine ⟨A1, c1, rfl, ?_, by rw [HCL.out]; exact hcc, ?_⟩
            · rw [HCL.out]; rfl
            · rw [HCL.out]; exact Kd.F_mono (Kd.F_alloc HCW.out _) (fun k hk => by omega)
          | i + 1, hq => simp at hq)) QA qc [] _ (heap_lt_alloc HF2.out) (fun W' _ => ⟨rfl, by simp, fun hn => by simp at hn⟩) (by simp)).mono ?_
        rw [HE.out]
        rintro e w3 ⟨av, qv, rfl, hA, hQ, hF3, hK3⟩
        obtain ⟨Aa, ca, rfl⟩ := Kd.R_slice hA
        obtain ⟨Av, cv, rfl⟩ := Kd.R_slice hQ
        have d1 : w3.cell? ⟨b, 1, none⟩ = some (.int .i64 T) := blk_cell hF3 1
        have d2 : w3.cell? ⟨b, 2, none⟩ = some (.int .i64 1) := blk_cell hF3 2
        have d3 := blk_lt hF3
        have hB3 : Below w.heap.size w w3 := (Keep.trans (Keep.of_below (fun k => k = b) (below_alloc hBB _)) hK3).belowB (Nat.le_refl _) (fun k hk => by omega)
        clear hA hQ hF3 hK3 HE HF2 HCW HCL hBB hb2
        simp only [effV, goesE]
        go_wp2_with (go_at_call 29; go_must (refine (awake12 _).mono ?_; rintro e w4 ⟨rfl, hb4⟩))
        go_ret
        exact ⟨rfl, by (repeat (first | exact Below.refl _ _ | (with_reducible assumption) | refine below_thenB ?_ (by assumption) | refine below_alloc ?_ _ | refine below_drew ?_ | refine pw_below_drewN ?_ _ | refine Below.setCell ?_ (by first | (simp; done) | omega | (simp; omega)) _))⟩
  ·
    subst h hn
    have m0 : (0 : Int) ≤ (many : Int) := by omega
    have o0 : (0 : Int) ≤ (tt : Int) := by omega
    have m1 : (many : Int) ≤ 255 := by omega
    have o1 : (tt : Int) ≤ 255 := by omega
    go_enter Try.func10, Try.ntmps10
    go_wp2_with fail
    refine plan_begin (fun _ => False) 12 12 rfl (by kernel_rfl) (fun hSk => ?_)
    (refine plan_q 0 rfl (by kernel_rfl) (by kernel_rfl) (by kernel_rfl) rfl rfl (fun _ _ _ _ h => h) hSk (by decide) (by kernel_rfl) (fun K hK => ?_); go_big_quiet_op; with_reducible refine hK _ ?_; clear hK K)
    (refine plan_q 1 rfl (by kernel_rfl) (by kernel_rfl) (by kernel_rfl) rfl rfl (fun _ _ _ _ h => h) hSk (by decide) (by kernel_rfl) (fun K hK => ?_); go_big_quiet_op; with_reducible refine hK _ ?_; clear hK K)
    (refine plan_q 2 rfl (by kernel_rfl) (by kernel_rfl) (by kernel_rfl) rfl rfl (fun _ _ _ _ h => h) hSk (by decide) (by kernel_rfl) (fun K hK => ?_); go_big_quiet_op; with_reducible refine hK _ ?_; clear hK K)
    (refine plan_q 3 rfl (by kernel_rfl) (by kernel_rfl) (by kernel_rfl) rfl rfl (fun _ _ _ _ h => h) hSk (by decide) (by kernel_rfl) (fun K hK => ?_); go_big_quiet_op; with_reducible refine hK _ ?_; clear hK K)
    (refine plan_q 4 rfl (by kernel_rfl) (by kernel_rfl) (by kernel_rfl) rfl rfl (fun _ _ _ _ h => h) hSk (by decide) (by kernel_rfl) (fun K hK => ?_); go_big_quiet_op; with_reducible refine hK _ ?_; clear hK K)
    (refine plan_q 5 rfl (by kernel_rfl) (by kernel_rfl) (by kernel_rfl) rfl rfl (fun _ _ _ _ h => h) hSk (by decide) (by kernel_rfl) (fun K hK => ?_); go_big_quiet_op; with_reducible refine hK _ ?_; clear hK K)
    (refine plan_q 6 rfl (by kernel_rfl) (by kernel_rfl) (by kernel_rfl) rfl rfl (fun _ _ _ _ h => h) hSk (by decide) (by kernel_rfl) (fun K hK => ?_); go_big_quiet_op; with_reducible refine hK _ ?_; clear hK K)
    (refine plan_q 7 rfl (by kernel_rfl) (by kernel_rfl) (by kernel_rfl) rfl rfl (fun _ _ _ _ h => h) hSk (by decide) (by kernel_rfl) (fun K hK => ?_); go_big_quiet_op; with_reducible refine hK _ ?_; clear hK K)
    (refine plan_q 8 rfl (by kernel_rfl) (by kernel_rfl) (by kernel_rfl) rfl rfl (fun _ _ _ _ h => h) hSk (by decide) (by kernel_rfl) (fun K hK => ?_); go_big_quiet_op; with_reducible refine hK _ ?_; clear hK K)
    (refine plan_q 9 rfl (by kernel_rfl) (by kernel_rfl) (by kernel_rfl) rfl rfl (fun _ _ _ _ h => h) hSk (by decide) (by kernel_rfl) (fun K hK => ?_); go_big_quiet_op; with_reducible refine hK _ ?_; clear hK K)
    (refine plan_q 10 rfl (by kernel_rfl) (by kernel_rfl) (by kernel_rfl) rfl rfl (fun _ _ _ _ h => h) hSk (by decide) (by kernel_rfl) (fun K hK => ?_); go_big_quiet_op; with_reducible refine hK _ ?_; clear hK K)
    (refine plan_q 11 rfl (by kernel_rfl) (by kernel_rfl) (by kernel_rfl) rfl rfl (fun _ _ _ _ h => h) hSk (by decide) (by kernel_rfl) (fun K hK => ?_); go_big_quiet_op; with_reducible refine hK _ ?_; clear hK K)
    refine plan_e (by kernel_rfl) ?_
    clear hSk
    go_wp2_with fail
    obtain ⟨J, hJ⟩ : ∃ J : Nat, (many : Int) % 60 + 2 = (J : Int) + 1 := ⟨many % 60 + 1, by omega⟩
    have J1 : 1 ≤ J := by omega
    have J2 : J ≤ 60 := by omega
    rw [hJ]
    obtain ⟨T, hT⟩ : ∃ T : Int, (tt : Int) % ((J : Int) + 1) = T := ⟨_, rfl⟩
    have T0 : 0 ≤ T := by rw [← hT]; exact Int.emod_nonneg _ (by omega)
    have T1 : T ≤ J := by have := Int.emod_lt_of_pos (tt : Int) (show (0 : Int) < (J : Int) + 1 by omega); omega
    rw [hT]
    clear hJ hT m0 o0 m1 o1 hm ht
    have hlen : ∀ j : Nat, (jumpC (⟨10, 3, 0, 0, T⟩ : In) j).length = j + 1 := fun j => by simp [jumpC]
    have HLEN := Aside0.mk hlen
    clear hlen
    obtain ⟨X, hX⟩ : ∃ X, X = (((w.alloc (.cells #[.int .i64 0, .int .u8 many, .int .u8 tt, .bool false] 82)).alloc (.cells (inCells (⟨10, 3, 0, 0, T⟩ : In)).toArray 24)).alloc (.cells (inCells (⟨10, 3, 0, 0, T⟩ : In)).toArray 24)).drew := ⟨_, rfl⟩
    have hXB : Below w.heap.size w X := by rw [hX]; (repeat (first | exact Below.refl _ _ | (with_reducible assumption) | refine below_thenB ?_ (by assumption) | refine below_alloc ?_ _ | refine below_drew ?_ | refine pw_below_drewN ?_ _ | refine Below.setCell ?_ (by first | (simp; done) | omega | (simp; omega)) _))
    have hXR : Kd.R kIn 24 X w.heap.size (fun _ => True) (.slice (some ⟨w.heap.size + 1 + 1, 0, none⟩) 1 1) (jumpC (⟨10, 3, 0, 0, T⟩ : In) 0) := code_R (jumpC (⟨10, 3, 0, 0, T⟩ : In) 0) (cs := (inCells (⟨10, 3, 0, 0, T⟩ : In)).toArray) (by rw [hX]; exact heap_drew1 (heap_at_alloc (by simp))) rfl (by omega) (by simp [jumpC])
    unfold inCells at hX
    rw [← hX]
    clear hX
    have HXR := Aside0.mk hXR
    clear hXR
    go_loopw [10] (fun v wr => ∃ j : Nat, j ≤ J ∧ Kd.R kIn 24 wr w.heap.size (fun _ => True) v (jumpC (⟨10, 3, 0, 0, T⟩ : In) j) ∧ Below w.heap.size w wr) (fun v _ => match v with | .slice _ n _ => J + 1 - n | _ => 0)
    case atStart => exact ⟨0, by omega, HXR.out, hXB⟩
    case round =>
      obtain ⟨j, hj, hR, hB⟩ := hrel
      obtain ⟨A1, c1, rfl⟩ := Kd.R_slice hR
      rw [HLEN.out] at hR ⊢
      have HRR := Aside0.mk hR
      clear hR HXR hXB
      by_cases hjJ : j < J
      · go_wp2_with (at_builtin; go_must (refine Kd.R_append_rows kIn (Rr := fun (x : In) cs => cs = inCells x) (w0 := w) w.heap.size rfl _ _ 25 24 (.agg #[.int .i64 0, .int .i64 0, .int .i64 0, .int .i64 0, .int .i64 0]) 40 rfl Try.underlying25 info_in rfl (by decide) (by decide) (.slice A1 (j + 1) c1) (jumpC (⟨10, 3, 0, 0, T⟩ : In) j) [retI] (some ⟨_, 0, none⟩) 1 1 (fun _ => True) (fun _ => False) rfl rfl (Kd.R_alloc HRR.out _) (one_in retI (heap_alloc_new _ _)) (fun x cs h => h ▸ kIn_mkM _ _ _ _) (fun _ h => h.elim) (fun _ _ => trivial) (by (repeat (first | exact Below.refl _ _ | (with_reducible assumption) | refine below_thenB ?_ (by assumption) | refine below_alloc ?_ _ | refine below_drew ?_ | refine pw_below_drewN ?_ _ | refine Below.setCell ?_ (by first | (simp; done) | omega | (simp; omega)) _))) (by have := hB.size; simp; omega) (by rw [HLEN.out]; omega) ?_; intro v1 w1 hR1 hB1 hG1 hO1; rw [← jump_snoc] at hR1; (have hv := Kd.R_slice hR1); rw [HLEN.out] at hv; (obtain ⟨A2, c2, rfl⟩ := hv)))
        go_roundw
        case rel => exact ⟨j + 1, by omega, hR1, hB1⟩
        case measure => simp; omega
      · obtain rfl : j = J := by omega
        go_wp2_with fail
        refine (new_any 0 none 0 [] (some ⟨wr.heap.size, 0, none⟩) 4 [0, 0, 0, 0] (fun _ => 0) _ (Kd.C_nil _ _) (by simp) (ints_C [0, 0, 0, 0] (by simp) (heap_alloc_new _ _))).mono ?_
        rintro e w2 ⟨b, QA, qc, rfl, hb1, hF2, -, hb2⟩
        have hE : execP [⟨4, jumpC (⟨10, 3, 0, 0, T⟩ : In) j⟩] 9 0 [] ⟨0, 0, 0, 0, regs0 [0, 0, 0, 0], fun _ => 0⟩ = (goesE, 0, ⟨0, T, 1, 0, regs0 [0, 0, 0, 0], fun _ => 0⟩) := by
          rw [jump_exec (⟨10, 3, 0, 0, T⟩ : In) j J1 J2 (jump_ok10 j T T0 T1) [0, 0, 0, 0], show doP [⟨4, jumpC (⟨10, 3, 0, 0, T⟩ : In) j⟩] 0 [] (⟨10, 3, 0, 0, T⟩ : In) ⟨0, 1, 1, 0, regs0 [0, 0, 0, 0], fun _ => 0⟩ = (goesE, ⟨0, T, 1, 0, regs0 [0, 0, 0, 0], fun _ => 0⟩) from by simp [doP, regs0]]
        have hCF : Kd.F kIn wr (fun k => k < wr.heap.size) A1 (j + 1) (jumpC (⟨10, 3, 0, 0, T⟩ : In) j) := Kd.R_F (Kd.R_mono (Kd.R_bound HRR.out) (fun k hk => hk.2.2.1))
        have hcl : (jumpC (⟨10, 3, 0, 0, T⟩ : In) j).length = j + 1 := HLEN.out j
        have hbw : w.heap.size ≤ wr.heap.size := hB.size
        have hcc : j + 1 ≤ c1 := by obtain ⟨A', c', hv, hl⟩ := HRR.out.2.slice_; simp only [Value.slice.injEq] at hv; omega
        have hCW : Kd.F kIn w2 (fun k => k < wr.heap.size) A1 (j + 1) (jumpC (⟨10, 3, 0, 0, T⟩ : In) j) := Kd.F_below (Kd.F_alloc hCF _) hb2
        have hlt := blk_lt hF2
        simp at hb1
        have HCW := Aside0.mk hCW
        have HE := Aside0.mk hE
        have HF2 := Aside0.mk hF2
        have HCL := Aside0.mk hcl
        have hBB : Below w.heap.size w w2 := by (repeat (first | exact Below.refl _ _ | (with_reducible assumption) | refine below_thenB ?_ (by assumption) | refine below_alloc ?_ _ | refine below_drew ?_ | refine pw_below_drewN ?_ _ | refine Below.setCell ?_ (by first | (simp; done) | omega | (simp; omega)) _))
        clear hE hCF hCW hF2 hB HRR HLEN hcl
        go_wp2_with fail
        refine (exec_any (some ⟨w2.heap.size, 0, none⟩) 1 [⟨4, jumpC (⟨10, 3, 0, 0, T⟩ : In) j⟩] 9 0 _ b (prog_F [⟨4, jumpC (⟨10, 3, 0, 0, T⟩ : In) j⟩] (heap_alloc_new _ _) (by omega) (by simp) (fun i q hq => by
          match i, hq with
          | 0, hq =>
            obtain rfl := Option.some.inj hq
            refine ⟨A1, c1, rfl, ?_, by rw [HCL.out]; exact hcc, ?_⟩
            · rw [HCL.out]; rfl
            · rw [HCL.out]; exact Kd.F_mono (Kd.F_alloc HCW.out _) (fun k hk => by omega)
          | i + 1, hq => simp at hq)) QA qc [] _ (heap_lt_alloc HF2.out) (fun W' _ => ⟨rfl, by simp, fun hn => by simp at hn⟩) (by simp)).mono ?_
        rw [HE.out]
        rintro e w3 ⟨av, qv, rfl, hA, hQ, hF3, hK3⟩
        obtain ⟨Aa, ca, rfl⟩ := Kd.R_slice hA
        obtain ⟨Av, cv, rfl⟩ := Kd.R_slice hQ
        have d1 : w3.cell? ⟨b, 1, none⟩ = some (.int .i64 T) := blk_cell hF3 1
        have d2 : w3.cell? ⟨b, 2, none⟩ = some (.int .i64 1) := blk_cell hF3 2
        have d3 := blk_lt hF3
        have hB3 : Below w.heap.size w w3 := (Keep.trans (Keep.of_below (fun k => k = b) (below_alloc hBB _)) hK3).belowB (Nat.le_refl _) (fun k hk => by omega)
        clear hA hQ hF3 hK3 HE HF2 HCW HCL hBB hb2
        simp only [effV, goesE]
        go_wp2_with (go_at_call 29; go_must (refine (awake12 _).mono ?_; rintro e w4 ⟨rfl, hb4⟩))
        go_ret
        exact ⟨rfl, by (repeat (first | exact Below.refl _ _ | (with_reducible assumption) | refine below_thenB ?_ (by assumption) | refine below_alloc ?_ _ | refine below_drew ?_ | refine pw_below_drewN ?_ _ | refine Below.setCell ?_ (by first | (simp; done) | omega | (simp; omega)) _))⟩
  ·
    subst h
    have m0 : (0 : Int) ≤ (many : Int) := by omega
    have o0 : (0 : Int) ≤ (tt : Int) := by omega
    have m1 : (many : Int) ≤ 255 := by omega
    have o1 : (tt : Int) ≤ 255 := by omega
    go_enter Try.func10, Try.ntmps10
    go_wp2_with fail
    refine plan_begin (fun _ => False) 12 12 rfl (by kernel_rfl) (fun hSk => ?_)
    (refine plan_q 0 rfl (by kernel_rfl) (by kernel_rfl) (by kernel_rfl) rfl rfl (fun _ _ _ _ h => h) hSk (by decide) (by kernel_rfl) (fun K hK => ?_); go_big_quiet_op; with_reducible refine hK _ ?_; clear hK K)
    (refine plan_q 1 rfl (by kernel_rfl) (by kernel_rfl) (by kernel_rfl) rfl rfl (fun _ _ _ _ h => h) hSk (by decide) (by kernel_rfl) (fun K hK => ?_); go_big_quiet_op; with_reducible refine hK _ ?_; clear hK K)
    (refine plan_q 2 rfl (by kernel_rfl) (by kernel_rfl) (by kernel_rfl) rfl rfl (fun _ _ _ _ h => h) hSk (by decide) (by kernel_rfl) (fun K hK => ?_); go_big_quiet_op; with_reducible refine hK _ ?_; clear hK K)
    (refine plan_q 3 rfl (by kernel_rfl) (by kernel_rfl) (by kernel_rfl) rfl rfl (fun _ _ _ _ h => h) hSk (by decide) (by kernel_rfl) (fun K hK => ?_); go_big_quiet_op; with_reducible refine hK _ ?_; clear hK K)
    (refine plan_q 4 rfl (by kernel_rfl) (by kernel_rfl) (by kernel_rfl) rfl rfl (fun _ _ _ _ h => h) hSk (by decide) (by kernel_rfl) (fun K hK => ?_); go_big_quiet_op; with_reducible refine hK _ ?_; clear hK K)
    (refine plan_q 5 rfl (by kernel_rfl) (by kernel_rfl) (by kernel_rfl) rfl rfl (fun _ _ _ _ h => h) hSk (by decide) (by kernel_rfl) (fun K hK => ?_); go_big_quiet_op; with_reducible refine hK _ ?_; clear hK K)
    (refine plan_q 6 rfl (by kernel_rfl) (by kernel_rfl) (by kernel_rfl) rfl rfl (fun _ _ _ _ h => h) hSk (by decide) (by kernel_rfl) (fun K hK => ?_); go_big_quiet_op; with_reducible refine hK _ ?_; clear hK K)
    (refine plan_q 7 rfl (by kernel_rfl) (by kernel_rfl) (by kernel_rfl) rfl rfl (fun _ _ _ _ h => h) hSk (by decide) (by kernel_rfl) (fun K hK => ?_); go_big_quiet_op; with_reducible refine hK _ ?_; clear hK K)
    (refine plan_q 8 rfl (by kernel_rfl) (by kernel_rfl) (by kernel_rfl) rfl rfl (fun _ _ _ _ h => h) hSk (by decide) (by kernel_rfl) (fun K hK => ?_); go_big_quiet_op; with_reducible refine hK _ ?_; clear hK K)
    (refine plan_q 9 rfl (by kernel_rfl) (by kernel_rfl) (by kernel_rfl) rfl rfl (fun _ _ _ _ h => h) hSk (by decide) (by kernel_rfl) (fun K hK => ?_); go_big_quiet_op; with_reducible refine hK _ ?_; clear hK K)
    (refine plan_q 10 rfl (by kernel_rfl) (by kernel_rfl) (by kernel_rfl) rfl rfl (fun _ _ _ _ h => h) hSk (by decide) (by kernel_rfl) (fun K hK => ?_); go_big_quiet_op; with_reducible refine hK _ ?_; clear hK K)
    (refine plan_q 11 rfl (by kernel_rfl) (by kernel_rfl) (by kernel_rfl) rfl rfl (fun _ _ _ _ h => h) hSk (by decide) (by kernel_rfl) (fun K hK => ?_); go_big_quiet_op; with_reducible refine hK _ ?_; clear hK K)
    refine plan_e (by kernel_rfl) ?_
    clear hSk
    go_wp2_with fail
    obtain ⟨J, hJ⟩ : ∃ J : Nat, (many : Int) % 60 + 2 = (J : Int) + 1 := ⟨many % 60 + 1, by omega⟩
    have J1 : 1 ≤ J := by omega
    have J2 : J ≤ 60 := by omega
    rw [hJ]
    obtain ⟨T, hT⟩ : ∃ T : Int, (tt : Int) % ((J : Int) + 1) = T := ⟨_, rfl⟩
    have T0 : 0 ≤ T := by rw [← hT]; exact Int.emod_nonneg _ (by omega)
    have T1 : T ≤ J := by have := Int.emod_lt_of_pos (tt : Int) (show (0 : Int) < (J : Int) + 1 by omega); omega
    rw [hT]
    clear hJ hT m0 o0 m1 o1 hm ht
    have hlen : ∀ j : Nat, (jumpC (⟨10, 3, 0, 0, T⟩ : In) j).length = j + 1 := fun j => by simp [jumpC]
    have HLEN := Aside0.mk hlen
    clear hlen
    obtain ⟨X, hX⟩ : ∃ X, X = (((w.alloc (.cells #[.int .i64 n, .int .u8 many, .int .u8 tt, .bool false] 82)).alloc (.cells (inCells (⟨10, 3, 0, 0, T⟩ : In)).toArray 24)).alloc (.cells (inCells (⟨10, 3, 0, 0, T⟩ : In)).toArray 24)).drew := ⟨_, rfl⟩
    have hXB : Below w.heap.size w X := by rw [hX]; (repeat (first | exact Below.refl _ _ | (with_reducible assumption) | refine below_thenB ?_ (by assumption) | refine below_alloc ?_ _ | refine below_drew ?_ | refine pw_below_drewN ?_ _ | refine Below.setCell ?_ (by first | (simp; done) | omega | (simp; omega)) _))
    have hXR : Kd.R kIn 24 X w.heap.size (fun _ => True) (.slice (some ⟨w.heap.size + 1 + 1, 0, none⟩) 1 1) (jumpC (⟨10, 3, 0, 0, T⟩ : In) 0) := code_R (jumpC (⟨10, 3, 0, 0, T⟩ : In) 0) (cs := (inCells (⟨10, 3, 0, 0, T⟩ : In)).toArray) (by rw [hX]; exact heap_drew1 (heap_at_alloc (by simp))) rfl (by omega) (by simp [jumpC])
    unfold inCells at hX
    rw [← hX]
    clear hX
    have HXR := Aside0.mk hXR
    clear hXR
    go_loopw [10] (fun v wr => ∃ j : Nat, j ≤ J ∧ Kd.R kIn 24 wr w.heap.size (fun _ => True) v (jumpC (⟨10, 3, 0, 0, T⟩ : In) j) ∧ Below w.heap.size w wr) (fun v _ => match v with | .slice _ n _ => J + 1 - n | _ => 0)
    case atStart => exact ⟨0, by omega, HXR.out, hXB⟩
    case round =>
      obtain ⟨j, hj, hR, hB⟩ := hrel
      obtain ⟨A1, c1, rfl⟩ := Kd.R_slice hR
      rw [HLEN.out] at hR ⊢
      have HRR := Aside0.mk hR
      clear hR HXR hXB
      by_cases hjJ : j < J
      · go_wp2_with (at_builtin; go_must (refine Kd.R_append_rows kIn (Rr := fun (x : In) cs => cs = inCells x) (w0 := w) w.heap.size rfl _ _ 25 24 (.agg #[.int .i64 0, .int .i64 0, .int .i64 0, .int .i64 0, .int .i64 0]) 40 rfl Try.underlying25 info_in rfl (by decide) (by decide) (.slice A1 (j + 1) c1) (jumpC (⟨10, 3, 0, 0, T⟩ : In) j) [retI] (some ⟨_, 0, none⟩) 1 1 (fun _ => True) (fun _ => False) rfl rfl (Kd.R_alloc HRR.out _) (one_in retI (heap_alloc_new _ _)) (fun x cs h => h ▸ kIn_mkM _ _ _ _) (fun _ h => h.elim) (fun _ _ => trivial) (by (repeat (first | exact Below.refl _ _ | (with_reducible assumption) | refine below_thenB ?_ (by assumption) | refine below_alloc ?_ _ | refine below_drew ?_ | refine pw_below_drewN ?_ _ | refine Below.setCell ?_ (by first | (simp; done) | omega | (simp; omega)) _))) (by have := hB.size; simp; omega) (by rw [HLEN.out]; omega) ?_; intro v1 w1 hR1 hB1 hG1 hO1; rw [← jump_snoc] at hR1; (have hv := Kd.R_slice hR1); rw [HLEN.out] at hv; (obtain ⟨A2, c2, rfl⟩ := hv)))
        go_roundw
        case rel => exact ⟨j + 1, by omega, hR1, hB1⟩
        case measure => simp; omega
      · obtain rfl : j = J := by omega
        go_wp2_with fail
        refine (new_any 0 none 0 [] (some ⟨wr.heap.size, 0, none⟩) 4 [0, 0, 0, n] (fun _ => 0) _ (Kd.C_nil _ _) (by simp) (ints_C [0, 0, 0, n] (by simp) (heap_alloc_new _ _))).mono ?_
        rintro e w2 ⟨b, QA, qc, rfl, hb1, hF2, -, hb2⟩
        have hE : execP [⟨4, jumpC (⟨10, 3, 0, 0, T⟩ : In) j⟩] 9 0 [] ⟨0, 0, 0, 0, regs0 [0, 0, 0, n], fun _ => 0⟩ = (goesE, 0, ⟨0, 1, 1, 0, regs0 [0, 0, 0, n], fun _ => 0⟩) := by
          rw [jump_exec (⟨10, 3, 0, 0, T⟩ : In) j J1 J2 (jump_ok10 j T T0 T1) [0, 0, 0, n], show doP [⟨4, jumpC (⟨10, 3, 0, 0, T⟩ : In) j⟩] 0 [] (⟨10, 3, 0, 0, T⟩ : In) ⟨0, 1, 1, 0, regs0 [0, 0, 0, n], fun _ => 0⟩ = (goesE, ⟨0, 1, 1, 0, regs0 [0, 0, 0, n], fun _ => 0⟩) from by simp [doP, regs0, hn]]
        have hCF : Kd.F kIn wr (fun k => k < wr.heap.size) A1 (j + 1) (jumpC (⟨10, 3, 0, 0, T⟩ : In) j) := Kd.R_F (Kd.R_mono (Kd.R_bound HRR.out) (fun k hk => hk.2.2.1))
        have hcl : (jumpC (⟨10, 3, 0, 0, T⟩ : In) j).length = j + 1 := HLEN.out j
        have hbw : w.heap.size ≤ wr.heap.size := hB.size
        have hcc : j + 1 ≤ c1 := by obtain ⟨A', c', hv, hl⟩ := HRR.out.2.slice_; simp only [Value.slice.injEq] at hv; omega
        have hCW : Kd.F kIn w2 (fun k => k < wr.heap.size) A1 (j + 1) (jumpC (⟨10, 3, 0, 0, T⟩ : In) j) := Kd.F_below (Kd.F_alloc hCF _) hb2
        have hlt := blk_lt hF2
        simp at hb1
        have HCW := Aside0.mk hCW
        have HE := Aside0.mk hE
        have HF2 := Aside0.mk hF2
        have HCL := Aside0.mk hcl
        have hBB : Below w.heap.size w w2 := by (repeat (first | exact Below.refl _ _ | (with_reducible assumption) | refine below_thenB ?_ (by assumption) | refine below_alloc ?_ _ | refine below_drew ?_ | refine pw_below_drewN ?_ _ | refine Below.setCell ?_ (by first | (simp; done) | omega | (simp; omega)) _))
        clear hE hCF hCW hF2 hB HRR HLEN hcl
        go_wp2_with fail
        refine (exec_any (some ⟨w2.heap.size, 0, none⟩) 1 [⟨4, jumpC (⟨10, 3, 0, 0, T⟩ : In) j⟩] 9 0 _ b (prog_F [⟨4, jumpC (⟨10, 3, 0, 0, T⟩ : In) j⟩] (heap_alloc_new _ _) (by omega) (by simp) (fun i q hq => by
          match i, hq with
          | 0, hq =>
            obtain rfl := Option.some.inj hq
            refine ⟨A1, c1, rfl, ?_, by rw [HCL.out]; exact hcc, ?_⟩
            · rw [HCL.out]; rfl
            · rw [HCL.out]; exact Kd.F_mono (Kd.F_alloc HCW.out _) (fun k hk => by omega)
          | i + 1, hq => simp at hq)) QA qc [] _ (heap_lt_alloc HF2.out) (fun W' _ => ⟨rfl, by simp, fun hn => by simp at hn⟩) (by simp)).mono ?_
        rw [HE.out]
        rintro e w3 ⟨av, qv, rfl, hA, hQ, hF3, hK3⟩
        obtain ⟨Aa, ca, rfl⟩ := Kd.R_slice hA
        obtain ⟨Av, cv, rfl⟩ := Kd.R_slice hQ
        have d1 : w3.cell? ⟨b, 1, none⟩ = some (.int .i64 1) := blk_cell hF3 1
        have d2 : w3.cell? ⟨b, 2, none⟩ = some (.int .i64 1) := blk_cell hF3 2
        have d3 := blk_lt hF3
        have hB3 : Below w.heap.size w w3 := (Keep.trans (Keep.of_below (fun k => k = b) (below_alloc hBB _)) hK3).belowB (Nat.le_refl _) (fun k hk => by omega)
        clear hA hQ hF3 hK3 HE HF2 HCW HCL hBB hb2
        simp only [effV, goesE]
        go_wp2_with (go_at_call 29; go_must (refine (awake12 _).mono ?_; rintro e w4 ⟨rfl, hb4⟩))
        go_ret
        exact ⟨rfl, by (repeat (first | exact Below.refl _ _ | (with_reducible assumption) | refine below_thenB ?_ (by assumption) | refine below_alloc ?_ _ | refine below_drew ?_ | refine pw_below_drewN ?_ _ | refine Below.setCell ?_ (by first | (simp; done) | omega | (simp; omega)) _))⟩
end Go.Proofs.Ytimmglnbjgbbjaa
