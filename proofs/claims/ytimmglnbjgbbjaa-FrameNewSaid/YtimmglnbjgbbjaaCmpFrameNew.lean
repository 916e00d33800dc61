/- The document's Compare at two equal paths, out of the printed text of FrameNew. No conditions. -/
import Derived.Test.YtimmglnbjgbbjaaAlike
import Derived.Test.YtimmglnbjgbbjaaPFrameNewx1
set_option linter.unusedVariables false
namespace Go.Proofs.Ytimmglnbjgbbjaa
open Go.RowKit Go.Proofs.YtimmglnbjgbbjaaW.PrintWords
open PFrameNew in
theorem compare_self (l : List Int) (hl : l.length ≤ 1000000) : haymowref05_Compare.f (2 * l.length + 2) l l = some 0 := by
  have key : ∀ d i : Nat, i + d = l.length → haymowref05_Compare.l0 (2 * d + 2) l l i = some 0 := by
    intro d
    induction d with
    | zero =>
      intro i hi
      rw [show 2 * 0 + 2 = 1 + 1 from rfl]
      simp only [haymowref05_Compare.l0]
      rw [if_neg (by omega)]
      simp [haymowref05_Compare.j1]
    | succ d ih =>
      intro i hi
      rw [show 2 * (d + 1) + 2 = (2 * d + 2) + 1 + 1 by omega]
      simp only [haymowref05_Compare.l0]
      rw [if_pos (by omega)]
      have e : decide ((i : Int) < (l.length : Int)) = true := by simp; omega
      rw [e]
      simp only [haymowref05_Compare.j1, if_true]
      rw [if_pos (by omega), if_pos (by omega), if_pos (by omega), if_neg (by omega), if_neg (by omega)]
      have hw : wrap64 ((i : Int) + 1) = ((i + 1 : Nat) : Int) := by unfold wrap64; omega
      rw [hw]
      exact ih (i + 1) (by omega)
  have := key l.length 0 (by omega)
  simpa [haymowref05_Compare.f] using this
theorem cmp_ok : CmpOk := fun l hl PA WA pc wc w hp hpc hq hqc =>
  (PFrameNew.haymowref05_Compare.calls (2 * l.length + 2) _ _ l _ _ l 0 w hp hpc hq hqc (compare_self l hl)).mono fun e w' ⟨he, hD⟩ => ⟨he, hD.below⟩
end Go.Proofs.Ytimmglnbjgbbjaa
