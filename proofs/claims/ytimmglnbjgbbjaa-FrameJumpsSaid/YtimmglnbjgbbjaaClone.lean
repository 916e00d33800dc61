/- slices.Clone at []int and []int64: a row of its own with the same numbers. No conditions. -/
import Derived.Test.YtimmglnbjgbbjaaPlan
set_option linter.unusedSimpArgs false
set_option linter.unusedVariables false
namespace Go.Proofs.Ytimmglnbjgbbjaa
open Go.RowKit Go.Proofs.YtimmglnbjgbbjaaW.PrintWords
theorem made_nil {w : World} {e : Nat} (hb : True) : Kd.R (Kd.int .i64) e (w.alloc (.cells #[] e)) w.heap.size (fun _ => True) (.slice (some ⟨w.heap.size, 0, none⟩) 0 0) [] :=
  ⟨fun _ _ => trivial, [], ⟨rfl, .inr ⟨w.heap.size, 0, #[], rfl, Nat.le_refl _, heap_alloc_new w _, Nat.le_refl _, Nat.zero_le _, rfl, rfl⟩⟩, Reps.none _ _⟩
theorem info_clone : (Try.prog.info? 3).map (fun i => (i.zero, i.size, i.bytes)) = some (some (.int .i64 0), 1, 8) := by kernel_rfl
set_option maxRecDepth 20000 in
set_option maxHeartbeats 400000 in
theorem clone_any (A : Option Addr) (c : Nat) (l : List Int) (w : World) (hr : Kd.C (Kd.int .i64) w A l.length l) (hl : l.length ≤ 1000000) :
    Calls Try.prog 56 #[.slice A l.length c] w fun e w' => ∃ v, e = .returned v ∧ Kd.R (Kd.int .i64) 3 w' w.heap.size (fun _ => True) v l ∧ Below w.heap.size w w' := by
  cases A with
  | none =>
    obtain rfl : l = [] := by
      rcases Nat.eq_zero_or_pos l.length with h | h
      · exact List.length_eq_zero_iff.1 h
      · obtain ⟨ad, h1, _⟩ := hr.2.2 h
        cases h1
    clear hr hl
    have hq : ∀ (n c : Nat) (w : World), (binOp .eql 38 (.slice none n c) (.slice none 0 0)).run Try.prog w = .ok (.bool true) w := fun _ _ _ => by kernel_rfl
    go_enter Try.func56, Try.ntmps56
    go_wp2
    go_ret
    exact ⟨_, rfl, Kd.R_nil _ _ _ _ _, Below.refl _ _⟩
  | some ad =>
    have HR := Aside0.mk hr
    have HL := Aside0.mk hl
    clear hr hl
    have hq : ∀ (ad : Addr) (n c : Nat) (w : World), (binOp .eql 38 (.slice (some ad) n c) (.slice none 0 0)).run Try.prog w = .ok (.bool false) w := fun _ _ _ _ => by kernel_rfl
    go_enter Try.func56, Try.ntmps56
    go_wp2_with (at_builtin; (refine Kd.R_append_rows (Kd.int .i64) (w0 := w) w.heap.size rfl _ _ 38 3 (.int .i64 0) 8 rfl Try.underlying38 info_clone rfl (by decide) (by decide) (.slice (some ⟨w.heap.size, 0, none⟩) 0 0) [] l (some ad) l.length c (fun _ => True) (fun _ => False) rfl rfl (made_nil trivial) (Kd.C_alloc HR.out _) (fun _ _ h => h) (fun _ h => h.elim) (fun _ _ => trivial) (below_alloc (Below.refl _ _) _) (by simp) (by have := HL.out; simp; omega) ?_; intro v1 w1 hR hB hG hO))
    go_ret
    exact ⟨_, rfl, hR, hB⟩
theorem info_clone64 : (Try.prog.info? 2).map (fun i => (i.zero, i.size, i.bytes)) = some (some (.int .i64 0), 1, 8) := by kernel_rfl
set_option maxRecDepth 20000 in
set_option maxHeartbeats 400000 in
theorem clone64_any (A : Option Addr) (c : Nat) (l : List Int) (w : World) (hr : Kd.C (Kd.int .i64) w A l.length l) (hl : l.length ≤ 1000000) :
    Calls Try.prog 135 #[.slice A l.length c] w fun e w' => ∃ v, e = .returned v ∧ Kd.R (Kd.int .i64) 2 w' w.heap.size (fun _ => True) v l ∧ Below w.heap.size w w' := by
  cases A with
  | none =>
    obtain rfl : l = [] := by
      rcases Nat.eq_zero_or_pos l.length with h | h
      · exact List.length_eq_zero_iff.1 h
      · obtain ⟨ad, h1, _⟩ := hr.2.2 h
        cases h1
    clear hr hl
    have hq : ∀ (n c : Nat) (w : World), (binOp .eql 26 (.slice none n c) (.slice none 0 0)).run Try.prog w = .ok (.bool true) w := fun _ _ _ => by kernel_rfl
    go_enter Try.func135, Try.ntmps135
    go_wp2
    go_ret
    exact ⟨_, rfl, Kd.R_nil _ _ _ _ _, Below.refl _ _⟩
  | some ad =>
    have HR := Aside0.mk hr
    have HL := Aside0.mk hl
    clear hr hl
    have hq : ∀ (ad : Addr) (n c : Nat) (w : World), (binOp .eql 26 (.slice (some ad) n c) (.slice none 0 0)).run Try.prog w = .ok (.bool false) w := fun _ _ _ _ => by kernel_rfl
    go_enter Try.func135, Try.ntmps135
    go_wp2_with (at_builtin; (refine Kd.R_append_rows (Kd.int .i64) (w0 := w) w.heap.size rfl _ _ 26 2 (.int .i64 0) 8 rfl Try.underlying26 info_clone64 rfl (by decide) (by decide) (.slice (some ⟨w.heap.size, 0, none⟩) 0 0) [] l (some ad) l.length c (fun _ => True) (fun _ => False) rfl rfl (made_nil trivial) (Kd.C_alloc HR.out _) (fun _ _ h => h) (fun _ h => h.elim) (fun _ _ => trivial) (below_alloc (Below.refl _ _) _) (by simp) (by have := HL.out; simp; omega) ?_; intro v1 w1 hR hB hG hO))
    go_ret
    exact ⟨_, rfl, hR, hB⟩
end Go.Proofs.Ytimmglnbjgbbjaa
