/- The operations' map of package frame, as Exec needs it. No conditions. -/
import Derived.Test.YtimmglnbjgbbjaaLookup
import Derived.Test.YtimmglnbjgbbjaaDo
import Derived.Test.YtimmglnbjgbbjaaDyn
set_option linter.unusedSimpArgs false
set_option linter.unusedVariables false
namespace Go.Proofs.Ytimmglnbjgbbjaa
open Go.RowKit Go.Proofs.YtimmglnbjgbbjaaW.PrintWords
theorem deeds_look (w : World) : Calls Try.prog 54 #[] w fun e w' => ∃ r, e = .returned (.map (some r)) ∧ w'.heap[r]? = some (.map deedsE 17) ∧ Below w.heap.size w w' :=
  (deeds_any w).mono fun e w' ⟨he, hw⟩ => ⟨_, he, by rw [hw]; exact heap_alloc_new _ _, by rw [hw]; exact below_alloc (Below.refl _ _) _⟩
theorem look_op (w : World) (r : Nat) (op : Int) (h1 : 1 ≤ op) (h2 : op ≤ 17) (hb : w.heap[r]? = some (.map deedsE 17)) : (Instr.lookup 153 (.map (some r)) (.int .i64 op) false).run Try.prog w = .ok (.func (.func (deedN op)) #[] #[]) w := by
  rcases show op = 1 ∨ op = 2 ∨ op = 3 ∨ op = 4 ∨ op = 5 ∨ op = 6 ∨ op = 7 ∨ op = 8 ∨ op = 9 ∨ op = 10 ∨ op = 11 ∨ op = 12 ∨ op = 13 ∨ op = 14 ∨ op = 15 ∨ op = 16 ∨ op = 17 from by omega with
    rfl | rfl | rfl | rfl | rfl | rfl | rfl | rfl | rfl | rfl | rfl | rfl | rfl | rfl | rfl | rfl | rfl
  · exact look_1 w r hb
  · exact look_2 w r hb
  · exact look_3 w r hb
  · exact look_4 w r hb
  · exact look_5 w r hb
  · exact look_6 w r hb
  · exact look_7 w r hb
  · exact look_8 w r hb
  · exact look_9 w r hb
  · exact look_10 w r hb
  · exact look_11 w r hb
  · exact look_12 w r hb
  · exact look_13 w r hb
  · exact look_14 w r hb
  · exact look_15 w r hb
  · exact look_16 w r hb
  · exact look_17 w r hb
theorem deed_enters (op : Int) : Enters Try.prog (deedN op) := by
  unfold deedN
  split
  · exact enters_of Try.func72 (by kernel_rfl) rfl
  split
  · exact enters_of Try.func73 (by kernel_rfl) rfl
  split
  · exact enters_of Try.func74 (by kernel_rfl) rfl
  split
  · exact enters_of Try.func75 (by kernel_rfl) rfl
  split
  · exact enters_of Try.func76 (by kernel_rfl) rfl
  split
  · exact enters_of Try.func77 (by kernel_rfl) rfl
  split
  · exact enters_of Try.func78 (by kernel_rfl) rfl
  split
  · exact enters_of Try.func79 (by kernel_rfl) rfl
  split
  · exact enters_of Try.func80 (by kernel_rfl) rfl
  split
  · exact enters_of Try.func81 (by kernel_rfl) rfl
  split
  · exact enters_of Try.func82 (by kernel_rfl) rfl
  · exact enters_of Try.func83 (by kernel_rfl) rfl
end Go.Proofs.Ytimmglnbjgbbjaa
