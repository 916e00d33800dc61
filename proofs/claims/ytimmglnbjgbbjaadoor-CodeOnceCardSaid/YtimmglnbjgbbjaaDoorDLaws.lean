/- The two laws of package code's names: their walks. No conditions. -/
import Derived.Test.YtimmglnbjgbbjaaDoorDNames
import Derived.Test.YtimmglnbjgbbjaaDoorDWrite
import Derived.Lib.ConvBytes
set_option linter.unusedSimpArgs false
set_option linter.unusedVariables false
namespace Go.Proofs.YtimmglnbjgbbjaaDoor
open Go.RowKit Go.Proofs.YtimmglnbjgbbjaaDoorW.PrintWords
set_option maxHeartbeats 400000 in
theorem awake_any (w : World) : Calls Tryd.prog 8 #[] w fun e w' => e = .returned (.bool true) ∧ Below w.heap.size w w' := by
  go_enter Tryd.func8, Tryd.ntmps8
  go_wp2_with (go_at_call 11; go_must (refine (write_one (w.heap.size + 1) w.heap.size 1 1 _ (by simp [go_sem]) (by simp [go_sem]) (by simp [go_sem]) (by simp [go_sem]) (by simp [go_sem]) (by simp [go_sem]) (by simp [go_sem]) (by simp) (by simp; omega)).mono ?_; rintro e w1 ⟨X, c, rfl, hc, hb⟩; (have hconv : (convert 30 9 (.slice (some ⟨X, 0, none⟩) 12 c)).run Tryd.prog w1 = .ok (.string ⟨#[72, 1, 0, 1, 17, 0, 0, 0, 0, 0, 0, 0]⟩) w1 := run_convert_bytes_arg w1 30 5 Tryd.underlying30 Tryd.underlying5 X 0 12 c [72, 1, 0, 1, 17, 0, 0, 0, 0, 0, 0, 0] rfl (fun i hi => by rw [Nat.zero_add]; exact hc i hi) 9 Tryd.underlying9)))
  go_ret
  exact ⟨rfl, by (repeat (first | exact Below.refl _ _ | (with_reducible assumption) | refine below_thenB ?_ (by assumption) | refine below_alloc ?_ _ | refine below_drew ?_ | refine pw_below_drewN ?_ _ | refine Below.setCell ?_ (by simp; done) _ | refine Below.setCell ?_ (by simp; omega) _))⟩
theorem wantTo_step (op : Int) (k : Nat) (h : 1 ≤ k) : wantTo op (k + 1) = if (k : Int) = op then nm18 k else wantTo op k := by
  obtain ⟨j, rfl⟩ : ∃ j, k = j + 1 := ⟨k - 1, by omega⟩
  unfold wantTo
  by_cases e : ((j + 1 : Nat) : Int) = op
  · rw [if_pos e, if_pos (by omega), show (op - 1).toNat = j by omega]; rfl
  · rw [if_neg e]
    by_cases e2 : 1 ≤ op ∧ op < ((j + 1 : Nat) : Int)
    · rw [if_pos e2, if_pos (by omega)]
    · rw [if_neg e2, if_neg (by omega)]
theorem foundTo_step (s : ByteArray) (k : Nat) (h : 1 ≤ k) : foundTo s (k + 1) = if nm18 k = s then (k : Int) else foundTo s k := by
  obtain ⟨j, rfl⟩ : ∃ j, k = j + 1 := ⟨k - 1, by omega⟩
  rw [foundTo]; rfl
set_option maxHeartbeats 400000 in
theorem codeNames_any (op : Int) (s : ByteArray) (w : World) (ht : Tab w) : Calls Tryd.prog 3 #[.int .i64 op, .string s] w fun e w' => e = .returned (.bool true) ∧ Below w.heap.size w w' := by
  by_cases hs : 50 < s.size
  · have hd : decide ((50 : Int) < (s.size : Int)) = true := by simpa using (by omega : (50 : Int) < s.size)
    go_enter Tryd.func3, Tryd.ntmps3
    go_wp2_with fail
    all_goals first | (go_ret; exact ⟨rfl, by (repeat (first | exact Below.refl _ _ | (with_reducible assumption) | refine below_thenB ?_ (by assumption) | refine below_alloc ?_ _ | refine below_drew ?_ | refine pw_below_drewN ?_ _ | refine Below.setCell ?_ (by simp; done) _ | refine Below.setCell ?_ (by simp; omega) _))⟩) | (exfalso; omega)
  go_enter Tryd.func3, Tryd.ntmps3
  go_wp2_with (go_at_call 5; (with_reducible refine (refs_any _).mono ?_); rintro e w1 ⟨rfl, hc, hb, hlt⟩)
  go_loop [6, 7, 8] (fun v6 v7 v8 => ∃ k : Nat, 1 ≤ k ∧ k ≤ 18 ∧ v6 = .string (wantTo op k) ∧ v7 = .int .i64 (foundTo s k) ∧ v8 = .int .i64 k) (fun _ _ i => match i with | .int _ m => 18 - m.toNat | _ => 0)
  case atStart => exact ⟨1, Nat.le_refl _, by decide, by unfold wantTo; rw [if_neg (by omega)]; rfl, rfl, rfl⟩
  case round =>
    obtain ⟨k, hk1, hk18, rfl, rfl, rfl⟩ := hrel
    by_cases hk : k < 18
    · have hcell := hc k hk
      have hkz : decide ((k : Int) < 18) = true := by simpa using (by omega : (k : Int) < 18)
      by_cases h1 : (k : Int) = op
      · have hb1 : ((k : Int) == op) = true := by simpa using h1
        have hw1 : wantTo op (k + 1) = nm18 k := by rw [wantTo_step op k hk1, if_pos h1]
        by_cases h2 : nm18 k = s
        · have hb2 : ((nm18 k).toList == s.toList) = true := (Lib.bytes_beq_iff _ _).2 h2
          have hf1 : foundTo s (k + 1) = k := by rw [foundTo_step s k hk1, if_pos h2]
          clear h1 h2
          go_wp2
          exact ⟨⟨k + 1, by omega, by omega, by rw [hw1], by rw [hf1], by simp⟩, by simp only []; omega⟩
        · have hb2 : ((nm18 k).toList == s.toList) = false := (Lib.bytes_beq_false_iff _ _).2 h2
          have hf1 : foundTo s (k + 1) = foundTo s k := by rw [foundTo_step s k hk1, if_neg h2]
          clear h1 h2
          go_wp2
          exact ⟨⟨k + 1, by omega, by omega, by rw [hw1], by rw [hf1], by simp⟩, by simp only []; omega⟩
      · have hb1 : ((k : Int) == op) = false := by simpa using h1
        have hw1 : wantTo op (k + 1) = wantTo op k := by rw [wantTo_step op k hk1, if_neg h1]
        by_cases h2 : nm18 k = s
        · have hb2 : ((nm18 k).toList == s.toList) = true := (Lib.bytes_beq_iff _ _).2 h2
          have hf1 : foundTo s (k + 1) = k := by rw [foundTo_step s k hk1, if_pos h2]
          clear h1 h2
          go_wp2
          exact ⟨⟨k + 1, by omega, by omega, by rw [hw1], by rw [hf1], by simp⟩, by simp only []; omega⟩
        · have hb2 : ((nm18 k).toList == s.toList) = false := (Lib.bytes_beq_false_iff _ _).2 h2
          have hf1 : foundTo s (k + 1) = foundTo s k := by rw [foundTo_step s k hk1, if_neg h2]
          clear h1 h2
          go_wp2
          exact ⟨⟨k + 1, by omega, by omega, by rw [hw1], by rw [hf1], by simp⟩, by simp only []; omega⟩
    · have hke : k = 18 := by omega
      subst hke
      rw [wantTo_end, foundTo_end]
      have T1 := tab_below ht hb
      go_wp2_with (first
        | (go_at_call 6; (with_reducible refine (name_any _ _ T1).mono ?_); rintro e w2 ⟨rfl, hb2⟩; (have T2 := tab_below T1 hb2))
        | (go_at_call 7; (with_reducible refine (named_any _ _ T2).mono ?_); rintro e w3 ⟨rfl, hb3⟩)
        | (go_at_call 8; (with_reducible refine (awake_any _).mono ?_); rintro e w4 ⟨rfl, hb4⟩))
      go_ret
      exact ⟨rfl, by (repeat (first | exact Below.refl _ _ | (with_reducible assumption) | refine below_thenB ?_ (by assumption) | refine below_alloc ?_ _ | refine below_drew ?_ | refine pw_below_drewN ?_ _ | refine Below.setCell ?_ (by simp; done) _ | refine Below.setCell ?_ (by simp; omega) _))⟩
theorem name_facts (x : Int) (h0 : 0 ≤ x) (h1 : x < 17) : ¬ (nameOf (x + 1)).data.toList = [] ∧ Lib.idxOfS nmZ (nameOf (x + 1)) = x := by
  obtain ⟨k, rfl⟩ : ∃ k : Nat, x = k := ⟨x.toNat, by omega⟩
  exact (show ∀ k : Fin 17, ¬ (nameOf ((k.val : Int) + 1)).data.toList = [] ∧ Lib.idxOfS nmZ (nameOf ((k.val : Int) + 1)) = (k.val : Int) by decide +kernel) ⟨k, by omega⟩
theorem name_apart (x y : Int) (h0 : 0 ≤ x) (h1 : x < 17) (h2 : 0 ≤ y) (h3 : y < 17) : ((nameOf (x + 1)).data.toList == (nameOf (y + 1)).data.toList) = (x + 1 == y + 1) := by
  obtain ⟨k, rfl⟩ : ∃ k : Nat, x = k := ⟨x.toNat, by omega⟩
  obtain ⟨j, rfl⟩ : ∃ j : Nat, y = j := ⟨y.toNat, by omega⟩
  exact (show ∀ k j : Fin 17, ((nameOf ((k.val : Int) + 1)).data.toList == (nameOf ((j.val : Int) + 1)).data.toList) = ((k.val : Int) + 1 == (j.val : Int) + 1) by decide +kernel) ⟨k, by omega⟩ ⟨j, by omega⟩
set_option maxHeartbeats 400000 in
theorem codeOnce_any (a b : Int) (ha0 : 0 ≤ a) (ha1 : a ≤ 255) (hb0 : 0 ≤ b) (hb1 : b ≤ 255) (w : World) (ht : Tab w) : Calls Tryd.prog 4 #[.int .u8 a, .int .u8 b] w fun e w' => e = .returned (.bool true) ∧ Below w.heap.size w w' := by
  obtain ⟨x, hx⟩ : ∃ x, a.tmod 17 = x := ⟨_, rfl⟩
  obtain ⟨y, hy⟩ : ∃ y, b.tmod 17 = y := ⟨_, rfl⟩
  have hx0 : 0 ≤ x ∧ x < 17 := by rw [← hx, Int.tmod_eq_emod_of_nonneg ha0]; omega
  have hy0 : 0 ≤ y ∧ y < 17 := by rw [← hy, Int.tmod_eq_emod_of_nonneg hb0]; omega
  have f1 : ¬ (nameOf (x + 1)).toList = [] := by rw [ByteArray.toList_eq]; exact (name_facts x hx0.1 hx0.2).1
  have f2 : Lib.idxOfS nmZ (nameOf (x + 1)) = x := (name_facts x hx0.1 hx0.2).2
  have f3 : ((nameOf (x + 1)).toList == (nameOf (y + 1)).toList) = (x + 1 == y + 1) := by rw [ByteArray.toList_eq, ByteArray.toList_eq]; exact name_apart x y hx0.1 hx0.2 hy0.1 hy0.2
  have n18 : nameOf 18 = ByteArray.empty := rfl
  have n0 : nameOf 0 = ByteArray.empty := rfl
  go_enter Tryd.func4, Tryd.ntmps4
  go_wp2_with (first
        | (go_at_call 6; (first | (with_reducible refine (name_any 18 _ (by assumption)).mono ?_) | (with_reducible refine (name_any 0 _ (by assumption)).mono ?_) | (with_reducible refine (name_any (x + 1) _ (by assumption)).mono ?_) | (with_reducible refine (name_any (y + 1) _ (by assumption)).mono ?_)); rintro e w2 ⟨rfl, hb2⟩; (have T2 := tab_below (by assumption) hb2))
        | (go_at_call 7; (with_reducible refine (named_any _ _ (by assumption)).mono ?_); rintro e w3 ⟨rfl, hb3⟩; (have T3 := tab_below (by assumption) hb3))
        | (go_at_call 8; (with_reducible refine (awake_any _).mono ?_); rintro e w4 ⟨rfl, hb4⟩))
  have fe : (nameOf (x + 1)).toList.isEmpty = false := by cases h : (nameOf (x + 1)).toList with | nil => exact absurd h f1 | cons _ _ => rfl
  rw [fe]
  go_ret
  exact ⟨rfl, by (repeat (first | exact Below.refl _ _ | (with_reducible assumption) | refine below_thenB ?_ (by assumption) | refine below_alloc ?_ _ | refine below_drew ?_ | refine pw_below_drewN ?_ _ | refine Below.setCell ?_ (by simp; done) _ | refine Below.setCell ?_ (by simp; omega) _))⟩
end Go.Proofs.YtimmglnbjgbbjaaDoor
