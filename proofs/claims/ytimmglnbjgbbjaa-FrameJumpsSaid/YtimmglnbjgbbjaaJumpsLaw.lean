/- The law haymowlaw12.FrameJumps answers true at every input, and the input reads as it did. No conditions. -/
import Derived.Test.YtimmglnbjgbbjaaRows
import Derived.Test.YtimmglnbjgbbjaaJumps2
import Derived.Test.YtimmglnbjgbbjaaOpen
import Derived.WalkKit
import Derived.ProofKit
import Derived.OpenShut
import Derived.ShutString
import Derived.ChangeOld
import Derived.Below
import Derived.SizedLaws
set_option linter.unusedVariables false
set_option linter.unusedSimpArgs false
namespace Go.Proofs.Ytimmglnbjgbbjaa
open Go.RowKit Go.Proofs.YtimmglnbjgbbjaaW.PrintWords
def kJump := Kd.pair (Kd.int .i64) (Kd.pair (Kd.int .u8) (Kd.pair (Kd.int .u8) Kd.bool))
theorem jump_opens : Opens Try.prog 82 kJump (fun x => (Lit.int .i64 x.1).wf = true ∧ (Lit.int .u8 x.2.1).wf = true ∧ (Lit.int .u8 x.2.2.1).wf = true ∧ True) :=
  opens_struct Try.underlying82 (N := 4) (by kernel_rfl) (opens_cons (c := 1) (opens_int Try.underlying2) rfl (by kernel_rfl) (opens_cons (c := 1) (opens_int Try.underlying5) rfl (by kernel_rfl) (opens_cons (c := 1) (opens_int Try.underlying5) rfl (by kernel_rfl) (opens_last (opens_bool Try.underlying4) rfl (by kernel_rfl)))))
theorem jump_open {w : World} {x : Int × Int × Int × Bool} {cs : List Value} (h : kJump.K w x cs) : cs = [.int .i64 x.1, .int .u8 x.2.1, .int .u8 x.2.2.1, .bool x.2.2.2] := by
  obtain ⟨_, _, rfl, rfl, ⟨_, _, rfl, rfl, ⟨_, _, rfl, rfl, rfl⟩⟩⟩ := h
  rfl
end Go.Proofs.Ytimmglnbjgbbjaa
namespace Go.Proofs.Ytimmglnbjgbbjaa.frameJumps
open Go.ChangeShapes Go.WideShapes Go.ChangeAt Go.RowKit
open Go.ChangeMaps (open_string shut_string)
theorem own : ownKnob Try.prog.godebug = none := by kernel_rfl
theorem laidOut : laidOutB Try.prog = true := by kernel_rfl
set_option maxRecDepth 100000 in
theorem lifted (os : Os) (started : os.Started) (H : Type) (enc : TypeId × Value → H) :
    ReturnsInHanded {} Try.checked os 10 .any (Rows.frameJumpsSpec.pre6 enc Try.prog Try.f10 Rows.frameJumpsRow.domain false) (Rows.frameJumpsSpec.post enc Try.prog Try.f10 false true false false) := by
  refine returnsInHanded_of_change_sized (C := Try.checked) own started (by kernel_rfl) Try.func10
    (ChangeSpec.witness6 (enc := enc) (C := Try.checked) false ⟨#[], #[.agg #[.int .i64 0, .int .u8 0, .int .u8 0, .bool false]], []⟩ 8 (by kernel_rfl) (by kernel_rfl) (by kernel_rfl) (by kernel_rfl)) ?_
  intro W base args ds gs before hval0 hW hcnd hsz0 _
  have hval : ∀ (j : Nat) t v, Try.f10.params[j]? = some t → args[j]? = some v → Value.okWide Try.prog W .any base t v := hval0
  have hW' := hW
  obtain ⟨p, q, hA0, hV, rfl, hfz, hnd⟩ := hW
  have hA : DataW.TrodAll enc Try.prog W 0 (fun _ => true) true Try.f10.params.toList args.toList ds p := hA0
  rw [Try.params10 ] at hA hval
  obtain ⟨v0, vs0, d0, ds0, p0, q0, hargs, rfl, rfl, h0, r0⟩ := trodAll_cons hA
  obtain ⟨rfl, rfl, rfl⟩ := trodAll_nil r0
  obtain rfl : args = #[v0] := by cases args; simp_all
  obtain ⟨rfl, rfl⟩ := trodVars_none hV
  obtain ⟨cs0, rfl, sz0⟩ := okWide_struct Try.underlying82 (hval 0 82 v0 rfl rfl)
  have k0 := h0
  have lt0 : ∀ x ∈ p0, x.block < W.heap.size := by obtain ⟨m, hm⟩ := k0; exact DataW.trod_lt m _ _ _ hm
  obtain ⟨fuel0, hf0⟩ := h0
  obtain ⟨z0, o0, g0⟩ := jump_opens enc W 0 _ _ fuel0 _ _ hf0
  simp only [Value.cells] at o0
  obtain ⟨n, m, t, pl⟩ := z0
  have e := jump_open o0
  obtain rfl : cs0 = #[.int .i64 n, .int .u8 m, .int .u8 t, .bool pl] := by rw [← Array.toArray_toList (xs := cs0), e]
  obtain ⟨_, b1, b2, _⟩ := g0
  have b1 : 0 ≤ m ∧ m ≤ 255 := bounds_u8 b1
  have b2 : 0 ≤ t ∧ t ≤ 255 := bounds_u8 b2
  obtain ⟨m, rfl⟩ : ∃ k : Nat, m = k := ⟨m.toNat, by omega⟩
  obtain ⟨t, rfl⟩ : ∃ k : Nat, t = k := ⟨t.toNat, by omega⟩
  clear hA0 hval0 hsz0
  refine (jumps_any n m t (by omega) (by omega) pl W).mono fun e W' ⟨he, bel⟩ => ?_
  subst he
  exact ⟨_, rfl, _, _, _, [], _, [], hW', trodAll_mk1 (shut_bool Try.underlying4 _), (trodAll_cons_mk (Below.trod laidOut (by kernel_rfl) (of_decide_eq_true (by kernel_rfl)) k0 bel lt0) trodAll_mk0), rfl, bel.frame _, fun h => by cases h⟩
theorem over : Rows.frameJumpsRow.holds Try.pinned (OpenSpec.ofChange Rows.frameJumpsSpec) :=
  OpenClaim.holds_of_wide 10 Try.f10 rfl rfl rfl rfl rfl rfl rfl ⟨rfl, rfl, rfl, rfl, rfl⟩ rfl rfl rfl rfl rfl (by kernel_rfl) Try.func10 (by kernel_rfl)
    (of_decide_eq_true (by kernel_rfl)) (by unfold Func.isWrapper; first | (rw [if_pos (by decide +kernel)]; kernel_rfl) | (rw [if_neg (by decide +kernel)]; exact ⟨rfl, rfl⟩))
    (fun os started H enc _ => lifted os started H enc)
theorem proved : Rows.FrameJumpsSaid := over
#print axioms proved
end Go.Proofs.Ytimmglnbjgbbjaa.frameJumps
namespace Go.Proofs.Ytimmglnbjgbbjaa
/-- The row, under a short name, for the claim. -/
theorem frameJumps_holds : Rows.FrameJumpsSaid := frameJumps.proved
end Go.Proofs.Ytimmglnbjgbbjaa
