/- A new frame (frame.New): what it answers. No conditions. -/
import Derived.Test.YtimmglnbjgbbjaaNew
import Derived.Deep.DeepMust
set_option linter.unusedSimpArgs false
set_option linter.unusedVariables false
namespace Go.Proofs.Ytimmglnbjgbbjaa
open Go.RowKit Go.Proofs.YtimmglnbjgbbjaaW.PrintWords
theorem below_setRow' {B g : Nat} {w0 w : World} (hb : Below B w0 w) (hBg : B ≤ g) (cs : Array Value) : Below B w0 (w.setRow g cs) :=
  ⟨hb.os, hb.tape, hb.output, by simpa [World.setRow] using hb.size, fun k hk => by rw [← hb.block k hk]; simp [World.setRow, Array.getElem?_modify, show ¬ g = k by omega]⟩
theorem setRow_other (w : World) (g k : Nat) (cs : Array Value) (h : k ≠ g) : (w.setRow g cs).heap[k]? = w.heap[k]? := by simp [World.setRow, Array.getElem?_modify, Ne.symm h]
set_option maxRecDepth 20000 in
set_option maxHeartbeats 1600000 in
theorem new_any (fn : Int) (PA : Option Addr) (pc : Nat) (path : List Int) (GA : Option Addr) (gc : Nat) (args : List Int) (H : Nat → Int) (w : World) (hpath : Kd.C (Kd.int .i64) w PA path.length path) (hpl : path.length ≤ 1000) (hargs : Kd.C (Kd.int .i64) w GA args.length args) :
    Calls Try.prog 31 #[.int .i64 fn, .slice PA path.length pc, .slice GA args.length gc, .agg #[.int .i64 (H 0), .int .i64 (H 1), .int .i64 (H 2), .int .i64 (H 3)]] w fun e w' =>
      ∃ b QA qc, e = .returned (.pointer (some ⟨b, 0, none⟩)) ∧ w.heap.size ≤ b ∧ w'.heap[b]? = some (.cells (FrB (.slice QA path.length qc) ⟨fn, 0, 0, 0, regs0 args, H⟩) 80 (0, 0)) ∧
        Kd.R (Kd.int .i64) 3 w' w.heap.size (fun k => k ≠ b) (.slice QA path.length qc) path ∧ Below w.heap.size w w' := by
  have HP := Aside0.mk hpath
  have HL := Aside0.mk hpl
  have HG := Aside0.mk hargs
  clear hpath hpl hargs
  go_enter Try.func31, Try.ntmps31
  go_wp2_with fail
  refine plan_begin (fun _ => False) 7 7 rfl (by kernel_rfl) (fun hSk => ?_)
  (refine plan_q 0 rfl (by kernel_rfl) (by kernel_rfl) (by kernel_rfl) rfl rfl (fun _ _ _ _ h => h) hSk (by decide) (by kernel_rfl) (fun K hK => ?_); go_big_quiet_op; with_reducible refine hK _ ?_; clear hK K)
  (refine plan_q 1 rfl (by kernel_rfl) (by kernel_rfl) (by kernel_rfl) rfl rfl (fun _ _ _ _ h => h) hSk (by decide) (by kernel_rfl) (fun K hK => ?_); go_big_quiet_op; with_reducible refine hK _ ?_; clear hK K)
  (refine plan_q 3 rfl (by kernel_rfl) (by kernel_rfl) (by kernel_rfl) rfl rfl (fun _ _ _ _ h => h) hSk (by decide) (by kernel_rfl) (fun K hK => ?_); go_big_quiet_op; with_reducible refine hK _ ?_; clear hK K)
  (refine plan_l 2 rfl (by kernel_rfl) (fun K hK => ?_); go_wp2_with (go_at_call 56; ((with_reducible refine (clone_any _ _ path _ (Kd.C_below HP.out (by (repeat (first | exact Below.refl _ _ | (with_reducible assumption) | refine below_thenB ?_ (by assumption) | refine below_alloc ?_ _ | refine below_drew ?_ | refine pw_below_drewN ?_ _ | refine Below.setCell ?_ (by first | (simp; done) | omega | (simp; omega)) _)))) (by have := HL.out; omega)).mono ?_); rintro e w2 ⟨qv, rfl, hRq, hBq⟩; (obtain ⟨Aq, cq, rfl⟩ := Kd.R_slice hRq))); (try simp only [Exit.then]); (try simp only [Act.put, List.setIfInBounds_toArray, List.set_cons_succ, List.set_cons_zero]); refine hK _ _ (fun hz0 => by clear hz0 hSk; (repeat (first | with_reducible exact Keep.refl _ _ | (with_reducible refine Keep.left ?_) | (with_reducible refine Keep.leftN ?_) | (with_reducible assumption) | (with_reducible refine Keep.setCell ?_ ?hs _; case hs => (first | (exact .inl rfl) | (simp; done) | (right; omega) | (right; simp; omega))) | (with_reducible refine Keep.allocs ?_ (by simp; done) _) | (with_reducible refine Keep.alloc ?_ _) | (with_reducible refine Keep.drew ?_) | (with_reducible refine Keep.drewN ?_ _) | refine Keep.thenBelow ?_ (by assumption) | refine Keep.grown ?_ (by assumption) (by intro k hk; (first | (cases hk; done) | (exfalso; simp [Value.ownBlock] at hk; done) | (simp [Value.ownBlock] at hk; subst hk; (first | (right; simp; omega) | (left; first | rfl | simp)))) ) | refine Keep.trans ?_ (by assumption) | (with_reducible refine Keep.allocs ?_ (by simp; done) _) | refine Keep.alloc ?_ _ | refine Keep.drew ?_ | refine Keep.drewN ?_ _ | refine Keep.setCell ?_ (by first | (exact .inl rfl) | (simp; done) | (right; omega) | (right; simp; omega)) _))) (fun hSk1 => ?_); clear hK K hSk; replace hSk1 := hSk1 (by decide); have hSk := hSk1; clear hSk1)
  (refine plan_q 4 rfl (by kernel_rfl) (by kernel_rfl) (by kernel_rfl) rfl rfl (fun _ _ _ _ h => h) hSk (by decide) (by kernel_rfl) (fun K hK => ?_); go_big_quiet_op; with_reducible refine hK _ ?_; clear hK K)
  (refine plan_l 5 rfl (by kernel_rfl) (fun K hK => ?_); go_wp2_with (go_at_call 56; ((with_reducible refine (clone_any _ _ path _ (Kd.C_below HP.out (by (repeat (first | exact Below.refl _ _ | (with_reducible assumption) | refine below_thenB ?_ (by assumption) | refine below_alloc ?_ _ | refine below_drew ?_ | refine pw_below_drewN ?_ _ | refine Below.setCell ?_ (by first | (simp; done) | omega | (simp; omega)) _)))) (by have := HL.out; omega)).mono ?_); rintro e w2 ⟨qv, rfl, hRq, hBq⟩; (obtain ⟨Aq, cq, rfl⟩ := Kd.R_slice hRq))); (try simp only [Exit.then]); (try simp only [Act.put, List.setIfInBounds_toArray, List.set_cons_succ, List.set_cons_zero]); refine hK _ _ (fun hz0 => by clear hz0 hSk; (repeat (first | with_reducible exact Keep.refl _ _ | (with_reducible refine Keep.left ?_) | (with_reducible refine Keep.leftN ?_) | (with_reducible assumption) | (with_reducible refine Keep.setCell ?_ ?hs _; case hs => (first | (exact .inl rfl) | (simp; done) | (right; omega) | (right; simp; omega))) | (with_reducible refine Keep.allocs ?_ (by simp; done) _) | (with_reducible refine Keep.alloc ?_ _) | (with_reducible refine Keep.drew ?_) | (with_reducible refine Keep.drewN ?_ _) | refine Keep.thenBelow ?_ (by assumption) | refine Keep.grown ?_ (by assumption) (by intro k hk; (first | (cases hk; done) | (exfalso; simp [Value.ownBlock] at hk; done) | (simp [Value.ownBlock] at hk; subst hk; (first | (right; simp; omega) | (left; first | rfl | simp)))) ) | refine Keep.trans ?_ (by assumption) | (with_reducible refine Keep.allocs ?_ (by simp; done) _) | refine Keep.alloc ?_ _ | refine Keep.drew ?_ | refine Keep.drewN ?_ _ | refine Keep.setCell ?_ (by first | (exact .inl rfl) | (simp; done) | (right; omega) | (right; simp; omega)) _))) (fun hSk1 => ?_); clear hK K hSk; replace hSk1 := hSk1 (by decide); have hSk := hSk1; clear hSk1)
  (refine plan_q 6 rfl (by kernel_rfl) (by kernel_rfl) (by kernel_rfl) rfl rfl (fun _ _ _ _ h => h) hSk (by decide) (by kernel_rfl) (fun K hK => ?_); go_big_quiet_op; with_reducible refine hK _ ?_; clear hK K)
  refine plan_e (by kernel_rfl) ?_
  clear hSk
  obtain ⟨X, hX⟩ : ∃ X, X = w2.alloc (.cells #[.int .i64 fn, .int .i64 0, .int .i64 0, .int .i64 0, .slice Aq path.length cq, .int .i64 0, .int .i64 0, .int .i64 0, .int .i64 0, .int .i64 0, .int .i64 0, .int .i64 0, .int .i64 0, .int .i64 (H 0), .int .i64 (H 1), .int .i64 (H 2), .int .i64 (H 3)] 80) := ⟨_, rfl⟩
  rw [← hX]
  have hs : w.heap.size + 1 ≤ w2.heap.size := by have := hBq.size; simpa using this
  have hB : Below w.heap.size w X := by rw [hX]; (repeat (first | exact Below.refl _ _ | (with_reducible assumption) | refine below_thenB ?_ (by assumption) | refine below_alloc ?_ _ | refine below_drew ?_ | refine pw_below_drewN ?_ _ | refine Below.setCell ?_ (by first | (simp; done) | omega | (simp; omega)) _))
  have hN : X.heap[w2.heap.size]? = some (.cells #[.int .i64 fn, .int .i64 0, .int .i64 0, .int .i64 0, .slice Aq path.length cq, .int .i64 0, .int .i64 0, .int .i64 0, .int .i64 0, .int .i64 0, .int .i64 0, .int .i64 0, .int .i64 0, .int .i64 (H 0), .int .i64 (H 1), .int .i64 (H 2), .int .i64 (H 3)] 80 (0, 0)) := by rw [hX]; exact heap_alloc_new _ _
  have hR : Kd.R (Kd.int .i64) 3 X w.heap.size (fun k => k < w2.heap.size) (.slice Aq path.length cq) path := by
    rw [hX]
    exact Kd.R_alloc (Kd.R_lower (Kd.R_mono (Kd.R_bound hRq) (fun k hk => hk.2.2.1)) (by simp)) _
  have hl : w2.heap.size < X.heap.size := by rw [hX]; simp
  clear hX hRq hBq HP HL
  have hC := copy_regs X w2.heap.size _ _ _ _ _ _ _ _ _ _ GA gc args (Kd.C_below HG.out hB) hN
  generalize w2.heap.size = b at *
  clear w2
  have hNE := Aside0.mk hN
  clear hN
  go_wp2_with fail
  go_ret
  refine ⟨b, Aq, cq, rfl, by omega, setRow_heap X b _ _ _ _ hNE.out, ?_, below_setRow' hB (by omega) _⟩
  exact Kd.R_mono (Kd.R_move (Kd.R_bound hR) (fun k hk => setRow_other X b k _ (by omega))) (fun k hk => by omega)
end Go.Proofs.Ytimmglnbjgbbjaa
