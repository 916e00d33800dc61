/- Programs that a function lays itself: how they read. No conditions. -/
import Derived.Test.YtimmglnbjgbbjaaBase
import Derived.Test.YtimmglnbjgbbjaaWShare
set_option linter.unusedSimpArgs false
set_option linter.unusedVariables false
namespace Go.Proofs.Ytimmglnbjgbbjaa
open Go.RowKit Go.Proofs.YtimmglnbjgbbjaaW.PrintWords
def inCells (x : In) : List Value := [.int .i64 x.op, .int .i64 x.a, .int .i64 x.b, .int .i64 x.c, .int .i64 x.k]
theorem kIn_mk (w : World) (x : In) : kIn.K w x (inCells x) := ⟨[_], [_, _, _, _], rfl, rfl, [_], [_, _, _], rfl, rfl, [_], [_, _], rfl, rfl, [_], [_], rfl, rfl, rfl⟩
theorem addr_add0 (g i : Nat) : (⟨g, 0, none⟩ : Addr).add i = ⟨g, i, none⟩ := by unfold Addr.add; split <;> simp_all
theorem addr_add0' (g o i : Nat) : (⟨g, o, none⟩ : Addr).add i = ⟨g, o + i, none⟩ := by unfold Addr.add; split <;> simp_all
/-- A row of instructions that a block holds from its begin on. -/
theorem code_C {w : World} {g : Nat} {cs : Array Value} {t : TypeId} (xs : List In) (h : w.heap[g]? = some (.cells cs t (0, 0))) (hm : xs.length ≤ 9223372036854775807) (hc : ∀ j x, xs[j]? = some x → ∀ i u, (inCells x)[i]? = some u → cs[j * 5 + i]? = some u) : Kd.C kIn w (some ⟨g, 0, none⟩) xs.length xs :=
  ⟨rfl, hm, fun _ => ⟨_, rfl, fun j x hj => ⟨inCells x, rfl, kIn_mk w x, fun i u hu => by
    show w.cell? ((⟨g, 0, none⟩ : Addr).add (j * 5 + i)) = some u
    rw [addr_add0, blk_cell h]
    exact hc j x hj i u hu⟩⟩⟩
theorem code_F {w : World} {g : Nat} {cs : Array Value} {t : TypeId} (xs : List In) (h : w.heap[g]? = some (.cells cs t (0, 0))) (hm : xs.length ≤ 9223372036854775807) (hc : ∀ j x, xs[j]? = some x → ∀ i u, (inCells x)[i]? = some u → cs[j * 5 + i]? = some u) : Kd.F kIn w (fun k => k = g) (some ⟨g, 0, none⟩) xs.length xs :=
  fun W' hW => code_C xs ((hW g rfl (blk_lt h)).trans h) hm hc
theorem code_nil (w : World) (ok : Nat → Prop) : Kd.F kIn w ok none 0 [] := fun W' _ => Kd.C_nil kIn W'
/-- A row of functions that a block holds from its begin on. -/
theorem prog_F {w : World} {g e : Nat} {cs : Array Value} {t : TypeId} {ok : Nat → Prop} (ps : List Fn) (h : w.heap[g]? = some (.cells cs t (0, 0))) (hok : ok g) (hm : ps.length ≤ 9223372036854775807)
    (hc : ∀ j p, ps[j]? = some p → ∃ A c, cs[j * 2]? = some (.int .i64 p.ar) ∧ cs[j * 2 + 1]? = some (.slice A p.code.length c) ∧ p.code.length ≤ c ∧ Kd.F kIn w ok A p.code.length p.code) : Kd.F (kFn e) w ok (some ⟨g, 0, none⟩) ps.length ps :=
  fun W' hW => ⟨rfl, hm, fun _ => ⟨_, rfl, fun j p hj => by
    obtain ⟨A, c, h1, h2, h3, h4⟩ := hc j p hj
    have hg := (hW g hok (blk_lt h)).trans h
    refine ⟨[.int .i64 p.ar, .slice A p.code.length c], rfl, ⟨[_], [_], rfl, rfl, A, c, rfl, h3, h4 W' hW⟩, fun i u hu => ?_⟩
    show W'.cell? ((⟨g, 0, none⟩ : Addr).add (j * 2 + i)) = some u
    rw [addr_add0, blk_cell hg]
    match i, hu with
    | 0, hu => rw [Nat.add_zero, h1]; simpa using hu
    | 1, hu => rw [h2]; simpa using hu
    | i + 2, hu => simp at hu⟩⟩
theorem kIn_mkM (w : World) (base : Nat) (ok : Nat → Prop) (x : In) : kIn.M w base ok x (inCells x) := ⟨[_], [_, _, _, _], rfl, rfl, [_], [_, _, _], rfl, rfl, [_], [_, _], rfl, rfl, [_], [_], rfl, rfl, rfl⟩
theorem code_reps (w : World) (base : Nat) (ok : Nat → Prop) : ∀ xs : List In, Reps (kIn.M w base ok) 5 xs (xs.flatMap inCells)
  | [] => Reps.none _ _
  | x :: xs => by
    have ih := code_reps w base ok xs
    refine ⟨by rw [List.flatMap_cons, List.length_append, ih.1, List.length_cons, Nat.add_mul]; show 5 + _ = _; omega, fun j p hj => ?_⟩
    rw [List.flatMap_cons]
    match j, hj with
    | 0, hj =>
      obtain rfl := Option.some.inj hj
      simpa [inCells] using kIn_mkM w base ok x
    | j + 1, hj =>
      have h := ih.2 j p hj
      rwa [show ((inCells x ++ xs.flatMap inCells).drop ((j + 1) * 5)) = (xs.flatMap inCells).drop (j * 5) by
        rw [List.drop_append, List.drop_of_length_le (by show 5 ≤ _; omega), List.nil_append]
        congr 1
        show (j + 1) * 5 - 5 = _
        omega]
/-- A block that is a row of instructions. -/
theorem code_R {w : World} {g base : Nat} {cs : Array Value} {e : TypeId} (xs : List In) (h : w.heap[g]? = some (.cells cs e (0, 0))) (hs : cs.toList = xs.flatMap inCells) (hb : base ≤ g) (hm : xs.length ≤ 9223372036854775807) :
    Kd.R kIn e w base (fun _ => True) (.slice (some ⟨g, 0, none⟩) xs.length xs.length) xs := by
  have hr := code_reps w base (fun k => True ∧ some k ≠ (Value.slice (some ⟨g, 0, none⟩) xs.length xs.length).ownBlock) xs
  refine ⟨fun _ _ => trivial, xs.flatMap inCells, ⟨hr.1, .inr ⟨g, xs.length, cs, rfl, hb, h, Nat.le_refl _, by unfold maxLen; omega, ?_, ?_⟩⟩, hr⟩
  · rw [← Array.length_toList, hs]; exact hr.1
  · rw [hs, List.take_of_length_le]; exact Nat.le_of_eq hr.1
theorem info_in : (Try.prog.info? 24).map (fun i => (i.zero, i.size, i.bytes)) = some (some (.agg #[.int .i64 0, .int .i64 0, .int .i64 0, .int .i64 0, .int .i64 0]), 5, 40) := by kernel_rfl
/-- A block of one instruction, as an append reads it. -/
theorem one_in {w : World} {g : Nat} {t : TypeId} (x : In) (h : w.heap[g]? = some (.cells (inCells x).toArray t (0, 0))) : ReadsRow (fun (x : In) cs => cs = inCells x) 5 w (some ⟨g, 0, none⟩) 1 [x] :=
  ⟨rfl, by omega, fun _ => ⟨_, rfl, fun j p hj => by
    match j, hj with
    | 0, hj =>
      obtain rfl := Option.some.inj hj
      refine ⟨inCells x, rfl, rfl, fun i u hu => ?_⟩
      rw [addr_add0, blk_cell h]
      simpa using hu
    | j + 1, hj => simp at hj⟩⟩
end Go.Proofs.Ytimmglnbjgbbjaa
