/- The operations' names, as code.names makes them: each function of package code that tells them, by what it hands back. No conditions. -/
import Derived.Test.YtimmglnbjgbbjaaDoorDShelf
import Derived.Test.YtimmglnbjgbbjaaDoorDIndex
import Derived.Test.YtimmglnbjgbbjaaDoorBase
import Derived.WalkKit
import Derived.Below
import Derived.Handy
import Derived.Deep.DeepCutAuto
import Derived.Lib.LaidTab
set_option linter.unusedSimpArgs false
set_option linter.unusedVariables false
namespace Go.Proofs.YtimmglnbjgbbjaaDoor
open Go.RowKit Go.Proofs.YtimmglnbjgbbjaaDoorW.PrintWords
/-- The names' letters. -/
def nmL : List (List UInt8) := [[115, 101, 116], [109, 111, 118, 101], [97, 100, 100], [115, 117, 98], [109, 117, 108], [100, 105, 118], [108, 101, 115, 115], [115, 97, 109, 101], [106, 117, 109, 112], [122, 101, 114, 111], [115, 112, 97, 119, 110], [115, 121, 110, 99], [102, 117, 116, 117, 114, 101], [116, 111, 117, 99, 104], [101, 109, 105, 116], [102, 97, 105, 108], [114, 101, 116]]
def nm (k : Nat) : ByteArray := (nmL.map fun l => (⟨l.toArray⟩ : ByteArray)).getD k ByteArray.empty
/-- An operation's name; of no operation: none. -/
def nameOf (op : Int) : ByteArray := if 1 ≤ op ∧ op ≤ 17 then nm (op - 1).toNat else ByteArray.empty
def nmZ : List ByteArray := nmL.map fun l => (⟨l.toArray⟩ : ByteArray)
def Tab (w : World) : Prop := Lib.TabIs Tryd.prog w "strings.asciiSpace" .u8 Lib.asciiSpaceTab
def textB : ByteArray := ⟨#[115, 101, 116, 32, 109, 111, 118, 101, 32, 97, 100, 100, 32, 115, 117, 98, 32, 109, 117, 108, 32, 100, 105, 118, 32, 108, 101, 115, 115, 32, 115, 97, 109, 101, 32, 106, 117, 109, 112, 32, 122, 101, 114, 111, 32, 115, 112, 97, 119, 110, 32, 115, 121, 110, 99, 32, 102, 117, 116, 117, 114, 101, 32, 116, 111, 117, 99, 104, 32, 101, 109, 105, 116, 32, 102, 97, 105, 108, 32, 114, 101, 116]⟩
theorem text_fields : Lib.fields textB.data.toList = nmL := by decide +kernel
theorem text_small : ∀ b ∈ textB.data.toList, b.toNat < 128 := by decide +kernel
theorem tab_below {w w' : World} (h : Tab w) (hb : Below w.heap.size w w') : Tab w' := by
  have c0 := h.cell (g := 0) (by kernel_rfl) 0 (by rw [Lib.asciiSpaceTab_length]; decide)
  have hl : 0 < w.heap.size := World.block_lt_of_cell? w _ c0
  have := hb.block _ hl
  unfold Tab Lib.TabIs World.var? at *
  rw [show Tryd.prog.globalNamed "strings.asciiSpace" = some 0 by kernel_rfl] at h ⊢
  simp only [Option.bind_some] at h ⊢
  rw [this]
  exact h
theorem names_any (w : World) (ht : Tab w) : Calls Tryd.prog 9 #[] w fun e w' => e = .returned (.slice (some ⟨w.heap.size, 0, none⟩) 17 17) ∧ (∀ j, j < 17 → w'.cell? ⟨w.heap.size, j, none⟩ = some (.string (nm j))) ∧ Below w.heap.size w w' ∧ w.heap.size < w'.heap.size := by
  go_enter Tryd.func9, Tryd.ntmps9
  have hF := Tryd.strings_Fields textB w (by decide +kernel) (fun j b hb => text_small b (List.mem_of_getElem? hb)) ht
  rw [text_fields] at hF
  go_wp2_with (go_at_call 12; refine hF.mono ?_; rintro e w1 ⟨rfl, rfl⟩)
  go_ret
  refine ⟨rfl, fun j hj => ?_, below_alloc (Below.refl _ _) _, by simp⟩
  rw [World.cell?_alloc_new]
  obtain ⟨l, hl⟩ : ∃ l, nmL[j]? = some l := ⟨_, List.getElem?_eq_getElem (by exact hj)⟩
  unfold nm
  rw [List.getElem?_toArray, List.getElem?_map, List.getD_eq_getElem?_getD, List.getElem?_map, hl]
  rfl
theorem name_any (op : Int) (w : World) (ht : Tab w) : Calls Tryd.prog 6 #[.int .i64 op] w fun e w' => e = .returned (.string (nameOf op)) ∧ Below w.heap.size w w' := by
  by_cases h1 : op < 1
  · have hn : nameOf op = ByteArray.empty := by unfold nameOf; rw [if_neg (by omega)]
    have hd : decide (op < 1) = true := by simpa using h1
    rw [hn]
    clear h1 hn
    go_enter Tryd.func6, Tryd.ntmps6
    go_wp2_with (go_at_call 9; (with_reducible refine (names_any _ ht).mono ?_); rintro e w1 ⟨rfl, hc, hb, hlt⟩)
    go_ret
    exact ⟨rfl, hb⟩
  by_cases h2 : 17 < op
  · have hn : nameOf op = ByteArray.empty := by unfold nameOf; rw [if_neg (by omega)]
    have hd : decide (op < 1) = false := by simpa using h1
    have hd2 : decide (17 < op) = true := by simpa using h2
    rw [hn]
    clear h1 hn h2
    go_enter Tryd.func6, Tryd.ntmps6
    go_wp2_with (go_at_call 9; (with_reducible refine (names_any _ ht).mono ?_); rintro e w1 ⟨rfl, hc, hb, hlt⟩)
    go_ret
    exact ⟨rfl, hb⟩
  have hn : nameOf op = nm (op - 1).toNat := by unfold nameOf; rw [if_pos (by omega)]
  rw [hn]
  clear hn
  rcases show op = 1 ∨ op = 2 ∨ op = 3 ∨ op = 4 ∨ op = 5 ∨ op = 6 ∨ op = 7 ∨ op = 8 ∨ op = 9 ∨ op = 10 ∨ op = 11 ∨ op = 12 ∨ op = 13 ∨ op = 14 ∨ op = 15 ∨ op = 16 ∨ op = 17 from by omega with h | h | h | h | h | h | h | h | h | h | h | h | h | h | h | h | h
  all_goals
    subst h
    clear h1 h2
    go_enter Tryd.func6, Tryd.ntmps6
    go_wp2_with (go_at_call 9; (with_reducible refine (names_any _ ht).mono ?_); rintro e w1 ⟨rfl, hc, hb, hlt⟩; (have c0 := hc 0 (by decide)); (have c1 := hc 1 (by decide)); (have c2 := hc 2 (by decide)); (have c3 := hc 3 (by decide)); (have c4 := hc 4 (by decide)); (have c5 := hc 5 (by decide)); (have c6 := hc 6 (by decide)); (have c7 := hc 7 (by decide)); (have c8 := hc 8 (by decide)); (have c9 := hc 9 (by decide)); (have c10 := hc 10 (by decide)); (have c11 := hc 11 (by decide)); (have c12 := hc 12 (by decide)); (have c13 := hc 13 (by decide)); (have c14 := hc 14 (by decide)); (have c15 := hc 15 (by decide)); (have c16 := hc 16 (by decide)); clear hc)
    go_ret
    exact ⟨rfl, hb⟩
theorem nmZ_at (j : Nat) : nmZ.getD j ByteArray.empty = nm j := rfl
theorem idxFrom_range (x : ByteArray) : ∀ (zs : List ByteArray) (i : Nat), -1 ≤ Lib.idxFromS zs x i ∧ Lib.idxFromS zs x i < (i : Int) + zs.length
  | [], i => by simp [Lib.idxFromS]; omega
  | z :: zs, i => by
    have h := idxFrom_range x zs (i + 1)
    unfold Lib.idxFromS
    split
    · simp only [List.length_cons]; omega
    · simp only [List.length_cons]; omega
theorem named_any (s : ByteArray) (w : World) (ht : Tab w) : Calls Tryd.prog 7 #[.string s] w fun e w' => e = .returned (.int .i64 (Lib.idxOfS nmZ s + 1)) ∧ Below w.heap.size w w' := by
  have hr : -1 ≤ Lib.idxOfS nmZ s ∧ Lib.idxOfS nmZ s < 17 := by have h := idxFrom_range s nmZ 0; have hz : nmZ.length = 17 := rfl; rw [hz] at h; exact ⟨h.1, by unfold Lib.idxOfS; omega⟩
  have hw : wrap64 (Lib.idxOfS nmZ s + 1) = Lib.idxOfS nmZ s + 1 := by unfold wrap64; omega
  have ht17 : List.take 17 nmZ = nmZ := rfl
  go_enter Tryd.func7, Tryd.ntmps7
  go_wp2_with (first
    | (go_at_call 9; (with_reducible refine (names_any _ ht).mono ?_); rintro e w1 ⟨rfl, hc, hb, hlt⟩)
    | (go_at_call 10; refine (Tryd.slices_Index_string _ 0 17 17 nmZ s _ (by decide) (by decide) ?_).mono ?_; (intro j hj; rw [Nat.zero_add]; exact hc j hj); rw [ht17]; rintro e w2 ⟨rfl, rfl⟩))
  go_ret
  exact ⟨by rw [← hw]; rfl, hb⟩
/-- The reference's row of names: one that is none, then the operations'. -/
def nm18 : Nat → ByteArray
  | 0 => ByteArray.empty
  | k + 1 => nm k
theorem refs_any (w : World) : Calls Tryd.prog 5 #[] w fun e w' => e = .returned (.slice (some ⟨w.heap.size, 0, none⟩) 18 18) ∧ (∀ j, j < 18 → w'.cell? ⟨w.heap.size, j, none⟩ = some (.string (nm18 j))) ∧ Below w.heap.size w w' ∧ w.heap.size < w'.heap.size := by
  go_enter Tryd.func5, Tryd.ntmps5
  go_wp2
  go_ret
  refine ⟨rfl, fun j hj => ?_, below_alloc (Below.refl _ _) _, by simp⟩
  rw [World.cell?_alloc_new]
  rcases show j = 0 ∨ j = 1 ∨ j = 2 ∨ j = 3 ∨ j = 4 ∨ j = 5 ∨ j = 6 ∨ j = 7 ∨ j = 8 ∨ j = 9 ∨ j = 10 ∨ j = 11 ∨ j = 12 ∨ j = 13 ∨ j = 14 ∨ j = 15 ∨ j = 16 ∨ j = 17 from by omega with h | h | h | h | h | h | h | h | h | h | h | h | h | h | h | h | h | h
  all_goals (subst h; rfl)
def wantTo (op : Int) (k : Nat) : ByteArray := if 1 ≤ op ∧ op < k then nm (op - 1).toNat else ByteArray.empty
def foundTo (s : ByteArray) : Nat → Int
  | 0 => 0
  | 1 => 0
  | k + 2 => if nm k = s then k + 1 else foundTo s (k + 1)
theorem wantTo_end (op : Int) : wantTo op 18 = nameOf op := by
  unfold wantTo nameOf
  have e : (1 ≤ op ∧ op < ((18 : Nat) : Int)) ↔ (1 ≤ op ∧ op ≤ 17) := by omega
  simp only [e]
theorem found_none (s : ByteArray) (h : ∀ j, j < 17 → nm j ≠ s) : ∀ k, k ≤ 18 → foundTo s k = 0
  | 0, _ => rfl
  | 1, _ => rfl
  | k + 2, hk => by unfold foundTo; rw [if_neg (h k (by omega))]; exact found_none s h (k + 1) (by omega)
theorem foundTo_end (s : ByteArray) : foundTo s 18 = Lib.idxOfS nmZ s + 1 := by
  by_cases hm : s ∈ nmZ
  · exact (show ∀ z ∈ nmZ, foundTo z 18 = Lib.idxOfS nmZ z + 1 by decide +kernel) s hm
  · have hne : ∀ j, j < 17 → nm j ≠ s := fun j hj he => hm (by
      rw [← he, ← nmZ_at, List.getD_eq_getElem?_getD, List.getElem?_eq_getElem (by exact hj)]
      exact List.getElem_mem _)
    have h2 : Lib.idxOfS nmZ s = -1 := Lib.idxFromS_miss s nmZ 0 (fun j hj => hne j hj)
    rw [found_none s hne 18 (Nat.le_refl _), h2]
    rfl
end Go.Proofs.YtimmglnbjgbbjaaDoor
