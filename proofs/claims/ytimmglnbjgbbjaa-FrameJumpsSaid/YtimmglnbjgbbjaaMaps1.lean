/- A map of functions by whole numbers, made by a literal: an entry more. No conditions. -/
import Derived.Test.YtimmglnbjgbbjaaPlan
import Derived.MapKept
set_option linter.unusedSimpArgs false
set_option linter.unusedVariables false
namespace Go.Proofs.Ytimmglnbjgbbjaa
open Go.RowKit Go.Proofs.YtimmglnbjgbbjaaW.PrintWords
theorem heap_put (h : Array Obj) (o o2 : Obj) : (h.push o).setIfInBounds h.size o2 = h.push o2 := by
  apply Array.ext_getElem?
  intro i
  rw [Array.getElem?_setIfInBounds, Array.getElem?_push, Array.getElem?_push]
  by_cases e : h.size = i
  · subst e; simp
  · simp [e, Ne.symm e]
theorem put_new (w : World) (es : Array MapEntry) (n : Nat) (k : Int) (v : Value) (hf : ∀ W, (Instr.findKey 3 (.int .i64 k) es.toList).run Try.prog W = .ok none W) :
    (Instr.mapUpdate 153 (.map (some w.heap.size)) (.int .i64 k) v).run Try.prog (w.alloc (.map es n)) = .ok () (w.alloc (.map (es.push { key := .int .i64 k, val := v, born := n }) (n + 1))) := by
  have hb : (w.alloc (.map es n)).heap[w.heap.size]? = some (.map es n) := heap_alloc_new w _
  have h1 : (getObj w.heap.size).run Try.prog (w.alloc (.map es n)) = .ok (.map es n) (w.alloc (.map es n)) := MapKept.run_getObj_map hb
  have h2 : ∀ w, (Instr.checkKey false 10000 3 (Value.int IntKind.i64 k)).run Try.prog w = .ok () w := fun _ => by kernel_rfl
  have h4 := fun o => MapKept.run_setObj_map (P := Try.prog) o hb
  unfold Instr.mapUpdate
  simp [Sem.run_bind, go_sem, h1, h2, hf, h4]
  show ({ w with heap := (w.heap.push _).setIfInBounds w.heap.size _ } : World) = { w with heap := w.heap.push _ }
  rw [heap_put]
end Go.Proofs.Ytimmglnbjgbbjaa
