/- A region that draws its order, whose first n operations only read and whose others come one behind the other: the first n are walked once, in the text's order, each at the cheap step. No conditions. -/
import Derived.Test.YtimmglnbjgbbjaaBase
namespace Go.Proofs.Ytimmglnbjgbbjaa
open Go.RowKit Go.Proofs.YtimmglnbjgbbjaaW.PrintWords
section
variable {P : Program} {ops : Array Oper} {W : World}
theorem still_of_quiet {o : Oper} {a : Act} {K : Act → Prop} (h : o.quiet P a (fun w' => w' = W) K) : o.still P a W K := by
  obtain ⟨v, h1, h2⟩ := h
  have h3 := h1 W rfl
  unfold Oper.quietAt at h3
  unfold Oper.still
  generalize (execOp a.eval o).run P W = r at *
  cases r with
  | ok n w' =>
    cases n <;> simp only [Oper.quietUpon] at h3 <;> simp only [Oper.stillUpon]
    case value u =>
      obtain ⟨e1, e2⟩ := h3
      exact ⟨e1, by rw [e2]; exact h2⟩
    case skip =>
      obtain ⟨e1, e2⟩ := h3
      exact ⟨e1, by rw [← e2]; exact h2⟩
    case enter f args => exact ⟨h3.1, v, h3.2, h2⟩
  | halt x w' => simp only [Oper.quietUpon] at h3
theorem wpStill_of_quiet {Q : Act → Prop} : ∀ (l : List Oper) (a : Act), wpQuiet P ops (fun w' => w' = W) Q l a → wpStill P ops W Q l a
  | [], _, h => h
  | o :: l, a, h => by
    unfold wpQuiet at h
    unfold wpStill
    split
    · rename_i hw
      rw [if_pos hw] at h
      exact Oper.still_mono (fun a h' => wpStill_of_quiet l a h') (still_of_quiet h)
    · rename_i hw
      rw [if_neg hw] at h
      exact wpStill_of_quiet l _ h
theorem wp_region_head {id : Nat} {Q : Exit → Act → World → Prop} {a : Act} {w : World} {l : List Oper} (n : Nat) (hm : P.follows .mixedOrders = true) (hB : Region.lexTailB .any l.toArray n = true)
    (h : wpQuiet P l.toArray (fun w' => w' = w.drew) (fun a' => wpList P l.toArray Q (l.drop n) a' w.drew) (l.take n) a) : (Code.region id l.toArray true).wp P Q a w :=
  wp_region_still_tail n hm hB (wpStill_of_quiet _ _ h)
end
end Go.Proofs.Ytimmglnbjgbbjaa
