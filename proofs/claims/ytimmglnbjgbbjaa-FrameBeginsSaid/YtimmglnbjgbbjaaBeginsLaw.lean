/- The law haymowlaw12.FrameBegins answers true at every input, and the input reads as it did. No conditions. -/
import Derived.Test.YtimmglnbjgbbjaaRows
import Derived.Test.YtimmglnbjgbbjaaBegins2
import Derived.Test.YtimmglnbjgbbjaaNew
import Derived.WalkKit
import Derived.ProofKit
import Derived.OpenShut
import Derived.ShutString
import Derived.ChangeOld
import Derived.Below
import Derived.SizedLaws
set_option linter.unusedVariables false
set_option linter.unusedSimpArgs false
namespace Go.Proofs.Ytimmglnbjgbbjaa
open Go.RowKit Go.Proofs.YtimmglnbjgbbjaaW.PrintWords
theorem four_of {l : List Int} (h : l.length = 4) : ∃ a b c d, l = [a, b, c, d] := by
  match l, h with
  | [a, b, c, d], _ => exact ⟨a, b, c, d, rfl⟩
def kKids := Kd.pair (Kd.arr 4 (Kd.int .i64) (by decide)) (Kd.pair (Kd.int .u8) (Kd.pair (Kd.int .u8) Kd.bool))
theorem kids_opens : Opens Try.prog 86 kKids (fun x => (∀ n ∈ x.1, (Lit.int .i64 n).wf = true) ∧ (Lit.int .u8 x.2.1).wf = true ∧ (Lit.int .u8 x.2.2.1).wf = true ∧ True) :=
  opens_struct Try.underlying86 (N := 7) (by kernel_rfl) (opens_cons (c := 4) (opens_array (by decide) Try.underlying84 (by kernel_rfl) (by kernel_rfl) (opens_int Try.underlying2)) rfl (by kernel_rfl) (opens_cons (c := 1) (opens_int Try.underlying5) rfl (by kernel_rfl) (opens_cons (c := 1) (opens_int Try.underlying5) rfl (by kernel_rfl) (opens_last (opens_bool Try.underlying4) rfl (by kernel_rfl)))))
theorem kids_open {w : World} {x : List Int × Int × Int × Bool} {cs : List Value} (h : kKids.K w x cs) : ∃ a b c d, x.1 = [a, b, c, d] ∧ cs = [.int .i64 a, .int .i64 b, .int .i64 c, .int .i64 d, .int .u8 x.2.1, .int .u8 x.2.2.1, .bool x.2.2.2] := by
  obtain ⟨_, _, rfl, h1, ⟨_, _, rfl, rfl, ⟨_, _, rfl, rfl, rfl⟩⟩⟩ := h
  obtain ⟨h2, rfl⟩ := Kd.arr_cells h1
  obtain ⟨a, b, c, d, he⟩ := four_of h2
  refine ⟨a, b, c, d, he, ?_⟩
  rw [he]
  rfl
end Go.Proofs.Ytimmglnbjgbbjaa
namespace Go.Proofs.Ytimmglnbjgbbjaa.frameBegins
open Go.ChangeShapes Go.WideShapes Go.ChangeAt Go.RowKit
open Go.ChangeMaps (open_string shut_string)
theorem own : ownKnob Try.prog.godebug = none := by kernel_rfl
theorem laidOut : laidOutB Try.prog = true := by kernel_rfl
set_option maxRecDepth 100000 in
theorem lifted (os : Os) (started : os.Started) (H : Type) (enc : TypeId × Value → H) :
    ReturnsInHanded {} Try.checked os 11 .any (Rows.frameBeginsSpec.pre6 enc Try.prog Try.f11 Rows.frameBeginsRow.domain false) (Rows.frameBeginsSpec.post enc Try.prog Try.f11 false true false false) := by
  refine returnsInHanded_of_change_sized (C := Try.checked) own started (by kernel_rfl) Try.func11
    (ChangeSpec.witness6 (enc := enc) (C := Try.checked) false ⟨#[], #[.agg #[.int .i64 0, .int .i64 0, .int .i64 0, .int .i64 0, .int .u8 0, .int .u8 0, .bool false]], []⟩ 8 (by kernel_rfl) (by kernel_rfl) (by kernel_rfl) (by kernel_rfl)) ?_
  intro W base args ds gs before hval0 hW hcnd hsz0 _
  have hval : ∀ (j : Nat) t v, Try.f11.params[j]? = some t → args[j]? = some v → Value.okWide Try.prog W .any base t v := hval0
  have hW' := hW
  obtain ⟨p, q, hA0, hV, rfl, hfz, hnd⟩ := hW
  have hA : DataW.TrodAll enc Try.prog W 0 (fun _ => true) true Try.f11.params.toList args.toList ds p := hA0
  rw [Try.params11 ] at hA hval
  obtain ⟨v0, vs0, d0, ds0, p0, q0, hargs, rfl, rfl, h0, r0⟩ := trodAll_cons hA
  obtain ⟨rfl, rfl, rfl⟩ := trodAll_nil r0
  obtain rfl : args = #[v0] := by cases args; simp_all
  obtain ⟨rfl, rfl⟩ := trodVars_none hV
  obtain ⟨cs0, rfl, sz0⟩ := okWide_struct Try.underlying86 (hval 0 86 v0 rfl rfl)
  have k0 := h0
  have lt0 : ∀ x ∈ p0, x.block < W.heap.size := by obtain ⟨m, hm⟩ := k0; exact DataW.trod_lt m _ _ _ hm
  obtain ⟨fuel0, hf0⟩ := h0
  obtain ⟨z0, o0, g0⟩ := kids_opens enc W 0 _ _ fuel0 _ _ hf0
  simp only [Value.cells] at o0
  obtain ⟨l, m, t, pl⟩ := z0
  obtain ⟨a, b, c, d, -, e⟩ := kids_open o0
  obtain rfl : cs0 = #[.int .i64 a, .int .i64 b, .int .i64 c, .int .i64 d, .int .u8 m, .int .u8 t, .bool pl] := by rw [← Array.toArray_toList (xs := cs0), e]
  obtain ⟨_, b1, b2, _⟩ := g0
  have b1 : 0 ≤ m ∧ m ≤ 255 := bounds_u8 b1
  have b2 : 0 ≤ t ∧ t ≤ 255 := bounds_u8 b2
  obtain ⟨m, rfl⟩ : ∃ k : Nat, m = k := ⟨m.toNat, by omega⟩
  obtain ⟨t, rfl⟩ : ∃ k : Nat, t = k := ⟨t.toNat, by omega⟩
  clear hA0 hval0 hsz0
  refine (begins_any a b c d m t (by omega) (by omega) pl W).mono fun e W' ⟨he, bel⟩ => ?_
  subst he
  exact ⟨_, rfl, _, _, _, [], _, [], hW', trodAll_mk1 (shut_bool Try.underlying4 _), (trodAll_cons_mk (Below.trod laidOut (by kernel_rfl) (of_decide_eq_true (by kernel_rfl)) k0 bel lt0) trodAll_mk0), rfl, bel.frame _, fun h => by cases h⟩
theorem over : Rows.frameBeginsRow.holds Try.pinned (OpenSpec.ofChange Rows.frameBeginsSpec) :=
  OpenClaim.holds_of_wide 11 Try.f11 rfl rfl rfl rfl rfl rfl rfl ⟨rfl, rfl, rfl, rfl, rfl⟩ rfl rfl rfl rfl rfl (by kernel_rfl) Try.func11 (by kernel_rfl)
    (of_decide_eq_true (by kernel_rfl)) (by unfold Func.isWrapper; first | (rw [if_pos (by decide +kernel)]; kernel_rfl) | (rw [if_neg (by decide +kernel)]; exact ⟨rfl, rfl⟩))
    (fun os started H enc _ => lifted os started H enc)
theorem proved : Rows.FrameBeginsSaid := over
#print axioms proved
end Go.Proofs.Ytimmglnbjgbbjaa.frameBegins
namespace Go.Proofs.Ytimmglnbjgbbjaa
/-- The row, under a short name, for the claim. -/
theorem frameBegins_holds : Rows.FrameBeginsSaid := frameBegins.proved
end Go.Proofs.Ytimmglnbjgbbjaa
