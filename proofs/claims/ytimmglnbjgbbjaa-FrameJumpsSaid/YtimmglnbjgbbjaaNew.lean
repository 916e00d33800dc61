/- A new frame (frame.New): its registers are the arguments, its path a copy. No conditions. -/
import Derived.Test.YtimmglnbjgbbjaaStep
import Derived.Test.YtimmglnbjgbbjaaEvalP
import Derived.Laws.CopyRow
set_option linter.unusedSimpArgs false
set_option linter.unusedVariables false
namespace Go.Proofs.Ytimmglnbjgbbjaa
open Go.RowKit Go.Proofs.YtimmglnbjgbbjaaW.PrintWords
theorem info_i64s : (Try.prog.info? 2).map (·.size) = some 1 := by kernel_rfl
theorem copy_nil_any (w : World) (dT sT ty elem : TypeId) (a : Addr) (dLen dCap c : Nat) (hu : Try.prog.underlying dT = some (.slice elem)) (hs : ((Try.prog.info? elem).map (·.size)).isSome = true) :
    (Builtin.copy_ #[dT, sT] ty #[.slice (some a) dLen dCap, .slice none 0 c]).run Try.prog w = .ok (goInt 0) w := by
  cases hq : Try.prog.info? elem with
  | none => simp [hq] at hs
  | some i => simp [Builtin.copy_, run_underlying hu, Builtin.lenOf, Builtin.firstCells, sizeOf, typeInfo, hq, storeCells]
/-- What a frame's registers hold of arguments. -/
theorem regs_splice (z0 z1 z2 z3 z4 h0 h1 h2 h3 : Value) (args : List Int) :
    let z := Value.int .i64 0
    (((#[z0, z1, z2, z3, z4, z, z, z, z, z, z, z, z, h0, h1, h2, h3] : Array Value).toList.take 5 ++ (args.take 8).map (Value.int .i64) ++ (#[z0, z1, z2, z3, z4, z, z, z, z, z, z, z, z, h0, h1, h2, h3] : Array Value).toList.drop (5 + ((args.take 8).map (Value.int .i64)).length)).toArray : Array Value) =
      #[z0, z1, z2, z3, z4, .int .i64 (regs0 args 0), .int .i64 (regs0 args 1), .int .i64 (regs0 args 2), .int .i64 (regs0 args 3), .int .i64 (regs0 args 4), .int .i64 (regs0 args 5), .int .i64 (regs0 args 6), .int .i64 (regs0 args 7), h0, h1, h2, h3] :=
  match args with
  | [] => rfl
  | [a0] => rfl
  | [a0, a1] => rfl
  | [a0, a1, a2] => rfl
  | [a0, a1, a2, a3] => rfl
  | [a0, a1, a2, a3, a4] => rfl
  | [a0, a1, a2, a3, a4, a5] => rfl
  | [a0, a1, a2, a3, a4, a5, a6] => rfl
  | a0 :: a1 :: a2 :: a3 :: a4 :: a5 :: a6 :: a7 :: _ => rfl
theorem copy_regs (w : World) (g : Nat) (T : TypeId) (z0 z1 z2 z3 z4 h0 h1 h2 h3 : Value) (GA : Option Addr) (gc : Nat) (args : List Int) (hr : Kd.C (Kd.int .i64) w GA args.length args)
    (hg : w.heap[g]? = some (.cells #[z0, z1, z2, z3, z4, .int .i64 0, .int .i64 0, .int .i64 0, .int .i64 0, .int .i64 0, .int .i64 0, .int .i64 0, .int .i64 0, h0, h1, h2, h3] T (0, 0))) :
    (Builtin.copy_ #[26, 26 ] 3 #[.slice (some ⟨g, 5, none⟩) 8 8, .slice GA args.length gc]).run Try.prog w = .ok (goInt (args.take 8).length)
      (w.setRow g #[z0, z1, z2, z3, z4, .int .i64 (regs0 args 0), .int .i64 (regs0 args 1), .int .i64 (regs0 args 2), .int .i64 (regs0 args 3), .int .i64 (regs0 args 4), .int .i64 (regs0 args 5), .int .i64 (regs0 args 6), .int .i64 (regs0 args 7), h0, h1, h2, h3]) := by
  by_cases h0' : args = []
  · subst h0'
    have e : w.setRow g #[z0, z1, z2, z3, z4, .int .i64 (regs0 [] 0), .int .i64 (regs0 [] 1), .int .i64 (regs0 [] 2), .int .i64 (regs0 [] 3), .int .i64 (regs0 [] 4), .int .i64 (regs0 [] 5), .int .i64 (regs0 [] 6), .int .i64 (regs0 [] 7), h0, h1, h2, h3] = w := setRow_self w g _ T (0, 0) hg
    rw [e]
    cases GA with
    | none => exact copy_nil_any w _ _ 3 2 _ 8 8 gc Try.underlying26 (by rw [info_i64s]; rfl)
    | some ad =>
      have h := run_copy_row Try.prog w 26 26 3 2 g 5 8 8 ad 0 gc _ T [] Try.underlying26 info_i64s hg rfl (fun j v hv => by simp at hv) (by simp) (fun v hv => by cases hv)
      simpa [setRow_self w g _ T (0, 0) hg] using h
  · have hpos : 0 < args.length := List.length_pos_iff.2 h0'
    obtain ⟨ad, rfl, hc⟩ := hr.2.2 hpos
    have hcl : ((args.take 8).map (Value.int .i64)).length = Nat.min args.length 8 := by simp [Nat.min_comm]
    have h := run_copy_row Try.prog w 26 26 3 2 g 5 8 8 ad args.length gc _ T ((args.take 8).map (Value.int .i64)) Try.underlying26 info_i64s hg hcl (fun j v hv => by
        rw [List.getElem?_map] at hv
        obtain ⟨n, hn, rfl⟩ := Option.map_eq_some_iff.1 hv
        have hn' : args[j]? = some n := by
          rw [List.getElem?_take] at hn
          split at hn
          · exact hn
          · cases hn
        obtain ⟨c, _, rfl, hcell⟩ := hc j n hn'
        have := hcell 0 _ rfl
        simpa [Kd.int, Kd.scalar] using this) (by have : Nat.min args.length 8 ≤ 8 := Nat.min_le_right _ _; rw [hcl]; simp; omega) (fun v hv => by
        obtain ⟨n, _, rfl⟩ := List.mem_map.1 hv
        rfl)
    rw [regs_splice] at h
    simpa using h
end Go.Proofs.Ytimmglnbjgbbjaa
