/- What the operations' map of package frame holds, looked up. No conditions. -/
import Derived.Test.YtimmglnbjgbbjaaDeeds
set_option linter.unusedSimpArgs false
set_option linter.unusedVariables false
namespace Go.Proofs.Ytimmglnbjgbbjaa
open Go.RowKit Go.Proofs.YtimmglnbjgbbjaaW.PrintWords
theorem look_any (w : World) (r : Nat) (k : Int) (i : Nat) (v : Value) (hb : w.heap[r]? = some (.map deedsE 17)) (hf : ∀ W, (Instr.findKey 3 (.int .i64 k) deedsE.toList).run Try.prog W = .ok (some (i, v)) W) :
    (Instr.lookup 153 (.map (some r)) (.int .i64 k) false).run Try.prog w = .ok v w := by
  have h1 : (getObj r).run Try.prog w = .ok (.map deedsE 17) w := MapKept.run_getObj_map hb
  have h2 : ∀ b w, (Instr.checkKey b 10000 3 (Value.int IntKind.i64 k)).run Try.prog w = .ok () w := fun _ _ => by kernel_rfl
  unfold Instr.lookup
  simp [Sem.run_bind, go_sem, h1, h2, hf]
theorem look_1 (w : World) (r : Nat) (hb : w.heap[r]? = some (.map deedsE 17)) : (Instr.lookup 153 (.map (some r)) (.int .i64 1) false).run Try.prog w = .ok (.func (.func 72) #[] #[]) w := look_any w r 1 0 _ hb (fun _ => by kernel_rfl)
theorem look_2 (w : World) (r : Nat) (hb : w.heap[r]? = some (.map deedsE 17)) : (Instr.lookup 153 (.map (some r)) (.int .i64 2) false).run Try.prog w = .ok (.func (.func 73) #[] #[]) w := look_any w r 2 1 _ hb (fun _ => by kernel_rfl)
theorem look_3 (w : World) (r : Nat) (hb : w.heap[r]? = some (.map deedsE 17)) : (Instr.lookup 153 (.map (some r)) (.int .i64 3) false).run Try.prog w = .ok (.func (.func 74) #[] #[]) w := look_any w r 3 2 _ hb (fun _ => by kernel_rfl)
theorem look_4 (w : World) (r : Nat) (hb : w.heap[r]? = some (.map deedsE 17)) : (Instr.lookup 153 (.map (some r)) (.int .i64 4) false).run Try.prog w = .ok (.func (.func 74) #[] #[]) w := look_any w r 4 3 _ hb (fun _ => by kernel_rfl)
theorem look_5 (w : World) (r : Nat) (hb : w.heap[r]? = some (.map deedsE 17)) : (Instr.lookup 153 (.map (some r)) (.int .i64 5) false).run Try.prog w = .ok (.func (.func 74) #[] #[]) w := look_any w r 5 4 _ hb (fun _ => by kernel_rfl)
theorem look_6 (w : World) (r : Nat) (hb : w.heap[r]? = some (.map deedsE 17)) : (Instr.lookup 153 (.map (some r)) (.int .i64 6) false).run Try.prog w = .ok (.func (.func 74) #[] #[]) w := look_any w r 6 5 _ hb (fun _ => by kernel_rfl)
theorem look_7 (w : World) (r : Nat) (hb : w.heap[r]? = some (.map deedsE 17)) : (Instr.lookup 153 (.map (some r)) (.int .i64 7) false).run Try.prog w = .ok (.func (.func 74) #[] #[]) w := look_any w r 7 6 _ hb (fun _ => by kernel_rfl)
theorem look_8 (w : World) (r : Nat) (hb : w.heap[r]? = some (.map deedsE 17)) : (Instr.lookup 153 (.map (some r)) (.int .i64 8) false).run Try.prog w = .ok (.func (.func 74) #[] #[]) w := look_any w r 8 7 _ hb (fun _ => by kernel_rfl)
theorem look_9 (w : World) (r : Nat) (hb : w.heap[r]? = some (.map deedsE 17)) : (Instr.lookup 153 (.map (some r)) (.int .i64 9) false).run Try.prog w = .ok (.func (.func 75) #[] #[]) w := look_any w r 9 8 _ hb (fun _ => by kernel_rfl)
theorem look_10 (w : World) (r : Nat) (hb : w.heap[r]? = some (.map deedsE 17)) : (Instr.lookup 153 (.map (some r)) (.int .i64 10) false).run Try.prog w = .ok (.func (.func 76) #[] #[]) w := look_any w r 10 9 _ hb (fun _ => by kernel_rfl)
theorem look_11 (w : World) (r : Nat) (hb : w.heap[r]? = some (.map deedsE 17)) : (Instr.lookup 153 (.map (some r)) (.int .i64 11) false).run Try.prog w = .ok (.func (.func 77) #[] #[]) w := look_any w r 11 10 _ hb (fun _ => by kernel_rfl)
theorem look_12 (w : World) (r : Nat) (hb : w.heap[r]? = some (.map deedsE 17)) : (Instr.lookup 153 (.map (some r)) (.int .i64 12) false).run Try.prog w = .ok (.func (.func 78) #[] #[]) w := look_any w r 12 11 _ hb (fun _ => by kernel_rfl)
theorem look_13 (w : World) (r : Nat) (hb : w.heap[r]? = some (.map deedsE 17)) : (Instr.lookup 153 (.map (some r)) (.int .i64 13) false).run Try.prog w = .ok (.func (.func 79) #[] #[]) w := look_any w r 13 12 _ hb (fun _ => by kernel_rfl)
theorem look_14 (w : World) (r : Nat) (hb : w.heap[r]? = some (.map deedsE 17)) : (Instr.lookup 153 (.map (some r)) (.int .i64 14) false).run Try.prog w = .ok (.func (.func 80) #[] #[]) w := look_any w r 14 13 _ hb (fun _ => by kernel_rfl)
theorem look_15 (w : World) (r : Nat) (hb : w.heap[r]? = some (.map deedsE 17)) : (Instr.lookup 153 (.map (some r)) (.int .i64 15) false).run Try.prog w = .ok (.func (.func 81) #[] #[]) w := look_any w r 15 14 _ hb (fun _ => by kernel_rfl)
theorem look_16 (w : World) (r : Nat) (hb : w.heap[r]? = some (.map deedsE 17)) : (Instr.lookup 153 (.map (some r)) (.int .i64 16) false).run Try.prog w = .ok (.func (.func 82) #[] #[]) w := look_any w r 16 15 _ hb (fun _ => by kernel_rfl)
theorem look_17 (w : World) (r : Nat) (hb : w.heap[r]? = some (.map deedsE 17)) : (Instr.lookup 153 (.map (some r)) (.int .i64 17) false).run Try.prog w = .ok (.func (.func 83) #[] #[]) w := look_any w r 17 16 _ hb (fun _ => by kernel_rfl)
end Go.Proofs.Ytimmglnbjgbbjaa
