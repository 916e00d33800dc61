/- The law haymowlaw12.FrameNew answers true at every input, and the input reads as it did. No conditions. -/
import Derived.Test.YtimmglnbjgbbjaaRows
import Derived.Test.YtimmglnbjgbbjaaFnew
import Derived.Test.YtimmglnbjgbbjaaCmpFrameNew
import Derived.Test.YtimmglnbjgbbjaaNew
import Derived.WalkKit
import Derived.ProofKit
import Derived.OpenShut
import Derived.ShutString
import Derived.ChangeOld
import Derived.Below
import Derived.SizedLaws
set_option linter.unusedVariables false
set_option linter.unusedSimpArgs false
namespace Go.Proofs.Ytimmglnbjgbbjaa
open Go.RowKit Go.Proofs.YtimmglnbjgbbjaaW.PrintWords
theorem four_of {l : List Int} (h : l.length = 4) : ∃ a b c d, l = [a, b, c, d] := by
  match l, h with
  | [a, b, c, d], _ => exact ⟨a, b, c, d, rfl⟩
def kFresh := Kd.pair (Kd.int .i64) (Kd.pair (Kd.slice 3 (Kd.int .i64)) (Kd.pair (Kd.slice 2 (Kd.int .i64)) (Kd.arr 4 (Kd.int .i64) (by decide))))
theorem fresh_opens : Opens Try.prog 76 kFresh (fun x => (Lit.int .i64 x.1).wf = true ∧ (∀ n ∈ x.2.1, (Lit.int .i64 n).wf = true) ∧ (∀ n ∈ x.2.2.1, (Lit.int .i64 n).wf = true) ∧ (∀ n ∈ x.2.2.2, (Lit.int .i64 n).wf = true)) :=
  opens_struct Try.underlying76 (N := 7) (by kernel_rfl) (opens_cons (c := 1) (opens_int Try.underlying3) rfl (by kernel_rfl) (opens_cons (c := 1) (opens_slice Try.underlying38 (by kernel_rfl) (opens_int Try.underlying3)) rfl (by kernel_rfl) (opens_cons (c := 1) (opens_slice Try.underlying26 (by kernel_rfl) (opens_int Try.underlying2)) rfl (by kernel_rfl) (opens_last (opens_array (by decide) Try.underlying50 (by kernel_rfl) (by kernel_rfl) (opens_int Try.underlying3)) rfl (by kernel_rfl)))))
theorem fresh_open {w : World} {x : Int × List Int × List Int × List Int} {cs : List Value} (h : kFresh.K w x cs) : ∃ a b c d PA pc GA gc, x.2.2.2 = [a, b, c, d] ∧ cs = [.int .i64 x.1, .slice PA x.2.1.length pc, .slice GA x.2.2.1.length gc, .int .i64 a, .int .i64 b, .int .i64 c, .int .i64 d] ∧ x.2.1.length ≤ pc ∧ Kd.C (Kd.int .i64) w PA x.2.1.length x.2.1 ∧ Kd.C (Kd.int .i64) w GA x.2.2.1.length x.2.2.1 := by
  obtain ⟨_, _, rfl, rfl, ⟨_, _, rfl, ⟨PA, pc, rfl, hl, hC⟩, ⟨_, _, rfl, ⟨GA, gc, rfl, -, hG⟩, h1⟩⟩⟩ := h
  obtain ⟨h2, rfl⟩ := Kd.arr_cells h1
  obtain ⟨a, b, c, d, he⟩ := four_of h2
  refine ⟨a, b, c, d, PA, pc, GA, gc, he, ?_, hl, hC, hG⟩
  rw [he]
  rfl
end Go.Proofs.Ytimmglnbjgbbjaa
namespace Go.Proofs.Ytimmglnbjgbbjaa.frameNew
open Go.ChangeShapes Go.WideShapes Go.ChangeAt Go.RowKit
open Go.ChangeMaps (open_string shut_string)
theorem own : ownKnob Try.prog.godebug = none := by kernel_rfl
theorem laidOut : laidOutB Try.prog = true := by kernel_rfl
set_option maxRecDepth 100000 in
theorem lifted (os : Os) (started : os.Started) (H : Type) (enc : TypeId × Value → H) :
    ReturnsInHanded {} Try.checked os 8 .any (Rows.frameNewSpec.pre6 enc Try.prog Try.f8 Rows.frameNewRow.domain false) (Rows.frameNewSpec.post enc Try.prog Try.f8 false true false false) := by
  refine returnsInHanded_of_change_sized (C := Try.checked) own started (by kernel_rfl) Try.func8
    (ChangeSpec.witness6 (enc := enc) (C := Try.checked) false ⟨#[], #[.agg #[.int .i64 0, .slice none 0 0, .slice none 0 0, .int .i64 0, .int .i64 0, .int .i64 0, .int .i64 0]], []⟩ 8 (by kernel_rfl) (by kernel_rfl) (by kernel_rfl) (by kernel_rfl)) ?_
  intro W base args ds gs before hval0 hW hcnd hsz0 _
  have hval : ∀ (j : Nat) t v, Try.f8.params[j]? = some t → args[j]? = some v → Value.okWide Try.prog W .any base t v := hval0
  have hW' := hW
  obtain ⟨p, q, hA0, hV, rfl, hfz, hnd⟩ := hW
  have hA : DataW.TrodAll enc Try.prog W 0 (fun _ => true) true Try.f8.params.toList args.toList ds p := hA0
  rw [Try.params8 ] at hA hval
  obtain ⟨v0, vs0, d0, ds0, p0, q0, hargs, rfl, rfl, h0, r0⟩ := trodAll_cons hA
  obtain ⟨rfl, rfl, rfl⟩ := trodAll_nil r0
  obtain rfl : args = #[v0] := by cases args; simp_all
  obtain ⟨rfl, rfl⟩ := trodVars_none hV
  obtain ⟨cs0, rfl, sz0⟩ := okWide_struct Try.underlying76 (hval 0 76 v0 rfl rfl)
  have k0 := h0
  have lt0 : ∀ x ∈ p0, x.block < W.heap.size := by obtain ⟨m, hm⟩ := k0; exact DataW.trod_lt m _ _ _ hm
  obtain ⟨fuel0, hf0⟩ := h0
  obtain ⟨z0, o0, g0⟩ := fresh_opens enc W 0 _ _ fuel0 _ _ hf0
  simp only [Value.cells] at o0
  obtain ⟨fn, path, args, l⟩ := z0
  obtain ⟨a, b, c, d, PA, pc, GA, gc, -, e, hl, hC, hG⟩ := fresh_open o0
  obtain rfl : cs0 = #[.int .i64 fn, .slice PA path.length pc, .slice GA args.length gc, .int .i64 a, .int .i64 b, .int .i64 c, .int .i64 d] := by rw [← Array.toArray_toList (xs := cs0), e]
  clear hA0 hval0 hsz0
  refine (fnew_any cmp_ok fn PA pc path GA gc args (fun i => [a, b, c, d][i]?.getD 0) W hC hl hG).mono fun e W' ⟨he, bel⟩ => ?_
  subst he
  exact ⟨_, rfl, _, _, _, [], _, [], hW', trodAll_mk1 (shut_bool Try.underlying4 _), (trodAll_cons_mk (Below.trod laidOut (by kernel_rfl) (of_decide_eq_true (by kernel_rfl)) k0 bel lt0) trodAll_mk0), rfl, bel.frame _, fun h => by cases h⟩
theorem over : Rows.frameNewRow.holds Try.pinned (OpenSpec.ofChange Rows.frameNewSpec) :=
  OpenClaim.holds_of_wide 8 Try.f8 rfl rfl rfl rfl rfl rfl rfl ⟨rfl, rfl, rfl, rfl, rfl⟩ rfl rfl rfl rfl rfl (by kernel_rfl) Try.func8 (by kernel_rfl)
    (of_decide_eq_true (by kernel_rfl)) (by unfold Func.isWrapper; first | (rw [if_pos (by decide +kernel)]; kernel_rfl) | (rw [if_neg (by decide +kernel)]; exact ⟨rfl, rfl⟩))
    (fun os started H enc _ => lifted os started H enc)
theorem proved : Rows.FrameNewSaid := over
#print axioms proved
end Go.Proofs.Ytimmglnbjgbbjaa.frameNew
namespace Go.Proofs.Ytimmglnbjgbbjaa
/-- The row, under a short name, for the claim. -/
theorem frameNew_holds : Rows.FrameNewSaid := frameNew.proved
end Go.Proofs.Ytimmglnbjgbbjaa
