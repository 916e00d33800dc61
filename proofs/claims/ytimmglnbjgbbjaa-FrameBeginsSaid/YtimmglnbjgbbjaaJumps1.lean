/- The law FrameJumps, in plain Lean: what the instruction does. No conditions. -/
import Derived.Test.YtimmglnbjgbbjaaExec
import Derived.Test.YtimmglnbjgbbjaaNew
set_option linter.unusedSimpArgs false
set_option linter.unusedVariables false
namespace Go.Proofs.Ytimmglnbjgbbjaa
open Go.RowKit Go.Proofs.YtimmglnbjgbbjaaW.PrintWords
def retI : In := ⟨17, 0, 0, 0, 0⟩
def jumpC (x : In) (j : Nat) : List In := x :: List.replicate j retI
theorem jump_snoc (x : In) (j : Nat) : jumpC x (j + 1) = jumpC x j ++ [retI] := by unfold jumpC; rw [List.replicate_succ']; rfl
theorem jump_prog (x : In) (j : Nat) (h1 : 1 ≤ j) (h64 : j ≤ 60) (hx : codeB [⟨4, jumpC x j⟩] ⟨4, jumpC x j⟩ x = true) : progB [⟨4, jumpC x j⟩] = true := by
  have hr : codeB [⟨4, jumpC x j⟩] ⟨4, jumpC x j⟩ retI = true := by simp [codeB, instrB, retI, shapeP, idleB, fitB, partN, fieldN, fieldB, jumpC]
  have hlast : (jumpC x j).getLast?.getD zIn = retI := by
    obtain ⟨m, rfl⟩ : ∃ m, j = m + 1 := ⟨j - 1, by omega⟩
    have : jumpC x (m + 1) = (x :: List.replicate m retI) ++ [retI] := by unfold jumpC; rw [List.replicate_succ']; rfl
    rw [this, List.getLast?_append]
    rfl
  have hlen : (jumpC x j).length = j + 1 := by simp [jumpC]
  unfold progB
  simp only [List.length_singleton, List.all_cons, List.all_nil, Bool.and_true, fnB, lastB, hlast, hlen, Bool.and_eq_true, decide_eq_true_eq, List.all_eq_true]
  refine ⟨by omega, ⟨⟨by omega, ?_⟩, rfl⟩⟩
  intro y hy
  rcases List.mem_cons.1 hy with rfl | hy
  · exact hx
  · rw [List.eq_of_mem_replicate hy]; exact hr
theorem jump_exec (x : In) (j : Nat) (h1 : 1 ≤ j) (h64 : j ≤ 60) (hx : codeB [⟨4, jumpC x j⟩] ⟨4, jumpC x j⟩ x = true) (args : List Int) :
    execP [⟨4, jumpC x j⟩] 9 0 [] ⟨0, 0, 0, 0, regs0 args, fun _ => 0⟩ = ((doP [⟨4, jumpC x j⟩] 0 [] x ⟨0, 1, 1, 0, regs0 args, fun _ => 0⟩).1, 0, (doP [⟨4, jumpC x j⟩] 0 [] x ⟨0, 1, 1, 0, regs0 args, fun _ => 0⟩).2) := by
  have hp := jump_prog x j h1 h64 hx
  have hl : limB 9 0 = true := rfl
  have ht : thereB [⟨4, jumpC x j⟩] ⟨0, 0, 0, 0, regs0 args, fun _ => 0⟩ = true := by simp [thereB, jumpC]
  unfold execP
  rw [hp, hl, ht, if_neg (by simp), if_neg (by simp), if_neg (by simp)]
  have hc : codeAt [⟨4, jumpC x j⟩] ⟨0, 0, 0, 0, regs0 args, fun _ => 0⟩ = x := rfl
  rw [hc]
  have hw : wrap64 ((0 : Int) + 1) = 1 := by unfold wrap64; omega
  show ((doP [⟨4, jumpC x j⟩] 0 [] x ⟨0, 0 + 1, wrap64 (0 + 1), 0, regs0 args, fun _ => 0⟩).1, (0 : Int), (doP [⟨4, jumpC x j⟩] 0 [] x ⟨0, 0 + 1, wrap64 (0 + 1), 0, regs0 args, fun _ => 0⟩).2) = _
  rw [hw, Int.zero_add]
theorem jump_ok9 (j : Nat) (t : Int) (h0 : 0 ≤ t) (ht : t ≤ j) : codeB [⟨4, jumpC ⟨9, 0, 0, 0, t⟩ j⟩] ⟨4, jumpC ⟨9, 0, 0, 0, t⟩ j⟩ ⟨9, 0, 0, 0, t⟩ = true := by
  simp [codeB, instrB, shapeP, idleB, fitB, partN, fieldN, fieldB, jumpC]; omega
theorem jump_ok10 (j : Nat) (t : Int) (h0 : 0 ≤ t) (ht : t ≤ j) : codeB [⟨4, jumpC ⟨10, 3, 0, 0, t⟩ j⟩] ⟨4, jumpC ⟨10, 3, 0, 0, t⟩ j⟩ ⟨10, 3, 0, 0, t⟩ = true := by
  simp [codeB, instrB, shapeP, idleB, fitB, partN, fieldN, fieldB, jumpC]; omega
/-- A row of whole numbers that a block is. -/
theorem ints_C {w : World} {g : Nat} {t : TypeId} (l : List Int) (hm : l.length ≤ 9223372036854775807) (h : w.heap[g]? = some (.cells (l.map (Value.int .i64)).toArray t (0, 0))) : Kd.C (Kd.int .i64) w (some ⟨g, 0, none⟩) l.length l :=
  ⟨rfl, hm, fun _ => ⟨_, rfl, fun j q hj => ⟨[.int .i64 q], rfl, rfl, fun i u hu => by
    match i, hu with
    | 0, hu =>
      obtain rfl : Value.int .i64 q = u := by simpa using hu
      show w.cell? ((⟨g, 0, none⟩ : Addr).add (j * 1 + 0)) = _
      have e : (⟨g, 0, none⟩ : Addr).add (j * 1 + 0) = ⟨g, j, none⟩ := by unfold Addr.add; split <;> simp_all
      rw [e, blk_cell h]
      simp [hj]
    | i + 1, hu => simp at hu⟩⟩⟩
end Go.Proofs.Ytimmglnbjgbbjaa
