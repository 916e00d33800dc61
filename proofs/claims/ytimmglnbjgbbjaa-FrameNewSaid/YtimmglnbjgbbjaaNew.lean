/- A new frame (frame.New): its registers are the arguments, its path a copy. A new frame (frame.New): what it answers. Programs that a function lays itself: how they read. How an argument that can be read as data is read by a kind: structs, arrays, slices of whole numbers and of such. No conditions. -/
import Derived.Test.YtimmglnbjgbbjaaStep
import Derived.Laws.CopyRow
import Derived.Deep.DeepMust
import Derived.Test.YtimmglnbjgbbjaaBase
import Derived.Test.YtimmglnbjgbbjaaWShare
import Derived.Test.YtimmglnbjgbbjaaWArr
import Derived.Deep.Slices
import Derived.OpenShut
import Derived.ProofKit
set_option linter.unusedSimpArgs false
set_option linter.unusedVariables false
namespace Go.Proofs.Ytimmglnbjgbbjaa
open Go.RowKit Go.Proofs.YtimmglnbjgbbjaaW.PrintWords
theorem info_i64s : (Try.prog.info? 2).map (·.size) = some 1 := by kernel_rfl
theorem copy_nil_any (w : World) (dT sT ty elem : TypeId) (a : Addr) (dLen dCap c : Nat) (hu : Try.prog.underlying dT = some (.slice elem)) (hs : ((Try.prog.info? elem).map (·.size)).isSome = true) :
    (Builtin.copy_ #[dT, sT] ty #[.slice (some a) dLen dCap, .slice none 0 c]).run Try.prog w = .ok (goInt 0) w := by
  cases hq : Try.prog.info? elem with
  | none => simp [hq] at hs
  | some i => simp [Builtin.copy_, run_underlying hu, Builtin.lenOf, Builtin.firstCells, sizeOf, typeInfo, hq, storeCells]
/-- What a frame's registers hold of arguments. -/
theorem regs_splice (z0 z1 z2 z3 z4 h0 h1 h2 h3 : Value) (args : List Int) :
    let z := Value.int .i64 0
    (((#[z0, z1, z2, z3, z4, z, z, z, z, z, z, z, z, h0, h1, h2, h3] : Array Value).toList.take 5 ++ (args.take 8).map (Value.int .i64) ++ (#[z0, z1, z2, z3, z4, z, z, z, z, z, z, z, z, h0, h1, h2, h3] : Array Value).toList.drop (5 + ((args.take 8).map (Value.int .i64)).length)).toArray : Array Value) =
      #[z0, z1, z2, z3, z4, .int .i64 (regs0 args 0), .int .i64 (regs0 args 1), .int .i64 (regs0 args 2), .int .i64 (regs0 args 3), .int .i64 (regs0 args 4), .int .i64 (regs0 args 5), .int .i64 (regs0 args 6), .int .i64 (regs0 args 7), h0, h1, h2, h3] :=
  match args with
  | [] => rfl
  | [a0] => rfl
  | [a0, a1] => rfl
  | [a0, a1, a2] => rfl
  | [a0, a1, a2, a3] => rfl
  | [a0, a1, a2, a3, a4] => rfl
  | [a0, a1, a2, a3, a4, a5] => rfl
  | [a0, a1, a2, a3, a4, a5, a6] => rfl
  | a0 :: a1 :: a2 :: a3 :: a4 :: a5 :: a6 :: a7 :: _ => rfl
theorem copy_regs (w : World) (g : Nat) (T : TypeId) (z0 z1 z2 z3 z4 h0 h1 h2 h3 : Value) (GA : Option Addr) (gc : Nat) (args : List Int) (hr : Kd.C (Kd.int .i64) w GA args.length args)
    (hg : w.heap[g]? = some (.cells #[z0, z1, z2, z3, z4, .int .i64 0, .int .i64 0, .int .i64 0, .int .i64 0, .int .i64 0, .int .i64 0, .int .i64 0, .int .i64 0, h0, h1, h2, h3] T (0, 0))) :
    (Builtin.copy_ #[26, 26 ] 3 #[.slice (some ⟨g, 5, none⟩) 8 8, .slice GA args.length gc]).run Try.prog w = .ok (goInt (args.take 8).length)
      (w.setRow g #[z0, z1, z2, z3, z4, .int .i64 (regs0 args 0), .int .i64 (regs0 args 1), .int .i64 (regs0 args 2), .int .i64 (regs0 args 3), .int .i64 (regs0 args 4), .int .i64 (regs0 args 5), .int .i64 (regs0 args 6), .int .i64 (regs0 args 7), h0, h1, h2, h3]) := by
  by_cases h0' : args = []
  · subst h0'
    have e : w.setRow g #[z0, z1, z2, z3, z4, .int .i64 (regs0 [] 0), .int .i64 (regs0 [] 1), .int .i64 (regs0 [] 2), .int .i64 (regs0 [] 3), .int .i64 (regs0 [] 4), .int .i64 (regs0 [] 5), .int .i64 (regs0 [] 6), .int .i64 (regs0 [] 7), h0, h1, h2, h3] = w := setRow_self w g _ T (0, 0) hg
    rw [e]
    cases GA with
    | none => exact copy_nil_any w _ _ 3 2 _ 8 8 gc Try.underlying26 (by rw [info_i64s]; rfl)
    | some ad =>
      have h := run_copy_row Try.prog w 26 26 3 2 g 5 8 8 ad 0 gc _ T [] Try.underlying26 info_i64s hg rfl (fun j v hv => by simp at hv) (by simp) (fun v hv => by cases hv)
      simpa [setRow_self w g _ T (0, 0) hg] using h
  · have hpos : 0 < args.length := List.length_pos_iff.2 h0'
    obtain ⟨ad, rfl, hc⟩ := hr.2.2 hpos
    have hcl : ((args.take 8).map (Value.int .i64)).length = Nat.min args.length 8 := by simp [Nat.min_comm]
    have h := run_copy_row Try.prog w 26 26 3 2 g 5 8 8 ad args.length gc _ T ((args.take 8).map (Value.int .i64)) Try.underlying26 info_i64s hg hcl (fun j v hv => by
        rw [List.getElem?_map] at hv
        obtain ⟨n, hn, rfl⟩ := Option.map_eq_some_iff.1 hv
        have hn' : args[j]? = some n := by
          rw [List.getElem?_take] at hn
          split at hn
          · exact hn
          · cases hn
        obtain ⟨c, _, rfl, hcell⟩ := hc j n hn'
        have := hcell 0 _ rfl
        simpa [Kd.int, Kd.scalar] using this) (by have : Nat.min args.length 8 ≤ 8 := Nat.min_le_right _ _; rw [hcl]; simp; omega) (fun v hv => by
        obtain ⟨n, _, rfl⟩ := List.mem_map.1 hv
        rfl)
    rw [regs_splice] at h
    simpa using h
end Go.Proofs.Ytimmglnbjgbbjaa
namespace Go.Proofs.Ytimmglnbjgbbjaa
open Go.RowKit Go.Proofs.YtimmglnbjgbbjaaW.PrintWords
theorem below_setRow' {B g : Nat} {w0 w : World} (hb : Below B w0 w) (hBg : B ≤ g) (cs : Array Value) : Below B w0 (w.setRow g cs) :=
  ⟨hb.os, hb.tape, hb.output, by simpa [World.setRow] using hb.size, fun k hk => by rw [← hb.block k hk]; simp [World.setRow, Array.getElem?_modify, show ¬ g = k by omega]⟩
theorem setRow_other (w : World) (g k : Nat) (cs : Array Value) (h : k ≠ g) : (w.setRow g cs).heap[k]? = w.heap[k]? := by simp [World.setRow, Array.getElem?_modify, Ne.symm h]
set_option maxRecDepth 20000 in
set_option maxHeartbeats 1600000 in
theorem new_any (fn : Int) (PA : Option Addr) (pc : Nat) (path : List Int) (GA : Option Addr) (gc : Nat) (args : List Int) (H : Nat → Int) (w : World) (hpath : Kd.C (Kd.int .i64) w PA path.length path) (hpl : path.length ≤ 1000) (hargs : Kd.C (Kd.int .i64) w GA args.length args) :
    Calls Try.prog 31 #[.int .i64 fn, .slice PA path.length pc, .slice GA args.length gc, .agg #[.int .i64 (H 0), .int .i64 (H 1), .int .i64 (H 2), .int .i64 (H 3)]] w fun e w' =>
      ∃ b QA qc, e = .returned (.pointer (some ⟨b, 0, none⟩)) ∧ w.heap.size ≤ b ∧ w'.heap[b]? = some (.cells (FrB (.slice QA path.length qc) ⟨fn, 0, 0, 0, regs0 args, H⟩) 80 (0, 0)) ∧
        Kd.R (Kd.int .i64) 3 w' w.heap.size (fun k => k ≠ b) (.slice QA path.length qc) path ∧ Below w.heap.size w w' := by
  have HP := Aside0.mk hpath
  have HL := Aside0.mk hpl
  have HG := Aside0.mk hargs
  clear hpath hpl hargs
  go_enter Try.func31, Try.ntmps31
  go_wp2_with fail
  refine plan_begin (fun _ => False) 7 7 rfl (by kernel_rfl) (fun hSk => ?_)
  (refine plan_q 0 rfl (by kernel_rfl) (by kernel_rfl) (by kernel_rfl) rfl rfl (fun _ _ _ _ h => h) hSk (by decide) (by kernel_rfl) (fun K hK => ?_); go_big_quiet_op; with_reducible refine hK _ ?_; clear hK K)
  (refine plan_q 1 rfl (by kernel_rfl) (by kernel_rfl) (by kernel_rfl) rfl rfl (fun _ _ _ _ h => h) hSk (by decide) (by kernel_rfl) (fun K hK => ?_); go_big_quiet_op; with_reducible refine hK _ ?_; clear hK K)
  (refine plan_q 3 rfl (by kernel_rfl) (by kernel_rfl) (by kernel_rfl) rfl rfl (fun _ _ _ _ h => h) hSk (by decide) (by kernel_rfl) (fun K hK => ?_); go_big_quiet_op; with_reducible refine hK _ ?_; clear hK K)
  (refine plan_l 2 rfl (by kernel_rfl) (fun K hK => ?_); go_wp2_with (go_at_call 56; ((with_reducible refine (clone_any _ _ path _ (Kd.C_below HP.out (by (repeat (first | exact Below.refl _ _ | (with_reducible assumption) | refine below_thenB ?_ (by assumption) | refine below_alloc ?_ _ | refine below_drew ?_ | refine pw_below_drewN ?_ _ | refine Below.setCell ?_ (by first | (simp; done) | omega | (simp; omega)) _)))) (by have := HL.out; omega)).mono ?_); rintro e w2 ⟨qv, rfl, hRq, hBq⟩; (obtain ⟨Aq, cq, rfl⟩ := Kd.R_slice hRq))); (try simp only [Exit.then]); (try simp only [Act.put, List.setIfInBounds_toArray, List.set_cons_succ, List.set_cons_zero]); refine hK _ _ (fun hz0 => by clear hz0 hSk; (repeat (first | with_reducible exact Keep.refl _ _ | (with_reducible refine Keep.left ?_) | (with_reducible refine Keep.leftN ?_) | (with_reducible assumption) | (with_reducible refine Keep.setCell ?_ ?hs _; case hs => (first | (exact .inl rfl) | (simp; done) | (right; omega) | (right; simp; omega))) | (with_reducible refine Keep.allocs ?_ (by simp; done) _) | (with_reducible refine Keep.alloc ?_ _) | (with_reducible refine Keep.drew ?_) | (with_reducible refine Keep.drewN ?_ _) | refine Keep.thenBelow ?_ (by assumption) | refine Keep.grown ?_ (by assumption) (by intro k hk; (first | (cases hk; done) | (exfalso; simp [Value.ownBlock] at hk; done) | (simp [Value.ownBlock] at hk; subst hk; (first | (right; simp; omega) | (left; first | rfl | simp)))) ) | refine Keep.trans ?_ (by assumption) | (with_reducible refine Keep.allocs ?_ (by simp; done) _) | refine Keep.alloc ?_ _ | refine Keep.drew ?_ | refine Keep.drewN ?_ _ | refine Keep.setCell ?_ (by first | (exact .inl rfl) | (simp; done) | (right; omega) | (right; simp; omega)) _))) (fun hSk1 => ?_); clear hK K hSk; replace hSk1 := hSk1 (by decide); have hSk := hSk1; clear hSk1)
  (refine plan_q 4 rfl (by kernel_rfl) (by kernel_rfl) (by kernel_rfl) rfl rfl (fun _ _ _ _ h => h) hSk (by decide) (by kernel_rfl) (fun K hK => ?_); go_big_quiet_op; with_reducible refine hK _ ?_; clear hK K)
  (refine plan_l 5 rfl (by kernel_rfl) (fun K hK => ?_); go_wp2_with (go_at_call 56; ((with_reducible refine (clone_any _ _ path _ (Kd.C_below HP.out (by (repeat (first | exact Below.refl _ _ | (with_reducible assumption) | refine below_thenB ?_ (by assumption) | refine below_alloc ?_ _ | refine below_drew ?_ | refine pw_below_drewN ?_ _ | refine Below.setCell ?_ (by first | (simp; done) | omega | (simp; omega)) _)))) (by have := HL.out; omega)).mono ?_); rintro e w2 ⟨qv, rfl, hRq, hBq⟩; (obtain ⟨Aq, cq, rfl⟩ := Kd.R_slice hRq))); (try simp only [Exit.then]); (try simp only [Act.put, List.setIfInBounds_toArray, List.set_cons_succ, List.set_cons_zero]); refine hK _ _ (fun hz0 => by clear hz0 hSk; (repeat (first | with_reducible exact Keep.refl _ _ | (with_reducible refine Keep.left ?_) | (with_reducible refine Keep.leftN ?_) | (with_reducible assumption) | (with_reducible refine Keep.setCell ?_ ?hs _; case hs => (first | (exact .inl rfl) | (simp; done) | (right; omega) | (right; simp; omega))) | (with_reducible refine Keep.allocs ?_ (by simp; done) _) | (with_reducible refine Keep.alloc ?_ _) | (with_reducible refine Keep.drew ?_) | (with_reducible refine Keep.drewN ?_ _) | refine Keep.thenBelow ?_ (by assumption) | refine Keep.grown ?_ (by assumption) (by intro k hk; (first | (cases hk; done) | (exfalso; simp [Value.ownBlock] at hk; done) | (simp [Value.ownBlock] at hk; subst hk; (first | (right; simp; omega) | (left; first | rfl | simp)))) ) | refine Keep.trans ?_ (by assumption) | (with_reducible refine Keep.allocs ?_ (by simp; done) _) | refine Keep.alloc ?_ _ | refine Keep.drew ?_ | refine Keep.drewN ?_ _ | refine Keep.setCell ?_ (by first | (exact .inl rfl) | (simp; done) | (right; omega) | (right; simp; omega)) _))) (fun hSk1 => ?_); clear hK K hSk; replace hSk1 := hSk1 (by decide); have hSk := hSk1; clear hSk1)
  (refine plan_q 6 rfl (by kernel_rfl) (by kernel_rfl) (by kernel_rfl) rfl rfl (fun _ _ _ _ h => h) hSk (by decide) (by kernel_rfl) (fun K hK => ?_); go_big_quiet_op; with_reducible refine hK _ ?_; clear hK K)
  refine plan_e (by kernel_rfl) ?_
  clear hSk
  obtain ⟨X, hX⟩ : ∃ X, X = w2.alloc (.cells #[.int .i64 fn, .int .i64 0, .int .i64 0, .int .i64 0, .slice Aq path.length cq, .int .i64 0, .int .i64 0, .int .i64 0, .int .i64 0, .int .i64 0, .int .i64 0, .int .i64 0, .int .i64 0, .int .i64 (H 0), .int .i64 (H 1), .int .i64 (H 2), .int .i64 (H 3)] 80) := ⟨_, rfl⟩
  rw [← hX]
  have hs : w.heap.size + 1 ≤ w2.heap.size := by have := hBq.size; simpa using this
  have hB : Below w.heap.size w X := by rw [hX]; (repeat (first | exact Below.refl _ _ | (with_reducible assumption) | refine below_thenB ?_ (by assumption) | refine below_alloc ?_ _ | refine below_drew ?_ | refine pw_below_drewN ?_ _ | refine Below.setCell ?_ (by first | (simp; done) | omega | (simp; omega)) _))
  have hN : X.heap[w2.heap.size]? = some (.cells #[.int .i64 fn, .int .i64 0, .int .i64 0, .int .i64 0, .slice Aq path.length cq, .int .i64 0, .int .i64 0, .int .i64 0, .int .i64 0, .int .i64 0, .int .i64 0, .int .i64 0, .int .i64 0, .int .i64 (H 0), .int .i64 (H 1), .int .i64 (H 2), .int .i64 (H 3)] 80 (0, 0)) := by rw [hX]; exact heap_alloc_new _ _
  have hR : Kd.R (Kd.int .i64) 3 X w.heap.size (fun k => k < w2.heap.size) (.slice Aq path.length cq) path := by
    rw [hX]
    exact Kd.R_alloc (Kd.R_lower (Kd.R_mono (Kd.R_bound hRq) (fun k hk => hk.2.2.1)) (by simp)) _
  have hl : w2.heap.size < X.heap.size := by rw [hX]; simp
  clear hX hRq hBq HP HL
  have hC := copy_regs X w2.heap.size _ _ _ _ _ _ _ _ _ _ GA gc args (Kd.C_below HG.out hB) hN
  generalize w2.heap.size = b at *
  clear w2
  have hNE := Aside0.mk hN
  clear hN
  go_wp2_with fail
  go_ret
  refine ⟨b, Aq, cq, rfl, by omega, setRow_heap X b _ _ _ _ hNE.out, ?_, below_setRow' hB (by omega) _⟩
  exact Kd.R_mono (Kd.R_move (Kd.R_bound hR) (fun k hk => setRow_other X b k _ (by omega))) (fun k hk => by omega)
end Go.Proofs.Ytimmglnbjgbbjaa
namespace Go.Proofs.Ytimmglnbjgbbjaa
open Go.RowKit Go.Proofs.YtimmglnbjgbbjaaW.PrintWords
def inCells (x : In) : List Value := [.int .i64 x.op, .int .i64 x.a, .int .i64 x.b, .int .i64 x.c, .int .i64 x.k]
theorem kIn_mk (w : World) (x : In) : kIn.K w x (inCells x) := ⟨[_], [_, _, _, _], rfl, rfl, [_], [_, _, _], rfl, rfl, [_], [_, _], rfl, rfl, [_], [_], rfl, rfl, rfl⟩
theorem addr_add0 (g i : Nat) : (⟨g, 0, none⟩ : Addr).add i = ⟨g, i, none⟩ := by unfold Addr.add; split <;> simp_all
theorem addr_add0' (g o i : Nat) : (⟨g, o, none⟩ : Addr).add i = ⟨g, o + i, none⟩ := by unfold Addr.add; split <;> simp_all
/-- A row of instructions that a block holds from its begin on. -/
theorem code_C {w : World} {g : Nat} {cs : Array Value} {t : TypeId} (xs : List In) (h : w.heap[g]? = some (.cells cs t (0, 0))) (hm : xs.length ≤ 9223372036854775807) (hc : ∀ j x, xs[j]? = some x → ∀ i u, (inCells x)[i]? = some u → cs[j * 5 + i]? = some u) : Kd.C kIn w (some ⟨g, 0, none⟩) xs.length xs :=
  ⟨rfl, hm, fun _ => ⟨_, rfl, fun j x hj => ⟨inCells x, rfl, kIn_mk w x, fun i u hu => by
    show w.cell? ((⟨g, 0, none⟩ : Addr).add (j * 5 + i)) = some u
    rw [addr_add0, blk_cell h]
    exact hc j x hj i u hu⟩⟩⟩
theorem code_F {w : World} {g : Nat} {cs : Array Value} {t : TypeId} (xs : List In) (h : w.heap[g]? = some (.cells cs t (0, 0))) (hm : xs.length ≤ 9223372036854775807) (hc : ∀ j x, xs[j]? = some x → ∀ i u, (inCells x)[i]? = some u → cs[j * 5 + i]? = some u) : Kd.F kIn w (fun k => k = g) (some ⟨g, 0, none⟩) xs.length xs :=
  fun W' hW => code_C xs ((hW g rfl (blk_lt h)).trans h) hm hc
theorem code_nil (w : World) (ok : Nat → Prop) : Kd.F kIn w ok none 0 [] := fun W' _ => Kd.C_nil kIn W'
/-- A row of functions that a block holds from its begin on. -/
theorem prog_F {w : World} {g e : Nat} {cs : Array Value} {t : TypeId} {ok : Nat → Prop} (ps : List Fn) (h : w.heap[g]? = some (.cells cs t (0, 0))) (hok : ok g) (hm : ps.length ≤ 9223372036854775807)
    (hc : ∀ j p, ps[j]? = some p → ∃ A c, cs[j * 2]? = some (.int .i64 p.ar) ∧ cs[j * 2 + 1]? = some (.slice A p.code.length c) ∧ p.code.length ≤ c ∧ Kd.F kIn w ok A p.code.length p.code) : Kd.F (kFn e) w ok (some ⟨g, 0, none⟩) ps.length ps :=
  fun W' hW => ⟨rfl, hm, fun _ => ⟨_, rfl, fun j p hj => by
    obtain ⟨A, c, h1, h2, h3, h4⟩ := hc j p hj
    have hg := (hW g hok (blk_lt h)).trans h
    refine ⟨[.int .i64 p.ar, .slice A p.code.length c], rfl, ⟨[_], [_], rfl, rfl, A, c, rfl, h3, h4 W' hW⟩, fun i u hu => ?_⟩
    show W'.cell? ((⟨g, 0, none⟩ : Addr).add (j * 2 + i)) = some u
    rw [addr_add0, blk_cell hg]
    match i, hu with
    | 0, hu => rw [Nat.add_zero, h1]; simpa using hu
    | 1, hu => rw [h2]; simpa using hu
    | i + 2, hu => simp at hu⟩⟩
theorem kIn_mkM (w : World) (base : Nat) (ok : Nat → Prop) (x : In) : kIn.M w base ok x (inCells x) := ⟨[_], [_, _, _, _], rfl, rfl, [_], [_, _, _], rfl, rfl, [_], [_, _], rfl, rfl, [_], [_], rfl, rfl, rfl⟩
theorem code_reps (w : World) (base : Nat) (ok : Nat → Prop) : ∀ xs : List In, Reps (kIn.M w base ok) 5 xs (xs.flatMap inCells)
  | [] => Reps.none _ _
  | x :: xs => by
    have ih := code_reps w base ok xs
    refine ⟨by rw [List.flatMap_cons, List.length_append, ih.1, List.length_cons, Nat.add_mul]; show 5 + _ = _; omega, fun j p hj => ?_⟩
    rw [List.flatMap_cons]
    match j, hj with
    | 0, hj =>
      obtain rfl := Option.some.inj hj
      simpa [inCells] using kIn_mkM w base ok x
    | j + 1, hj =>
      have h := ih.2 j p hj
      rwa [show ((inCells x ++ xs.flatMap inCells).drop ((j + 1) * 5)) = (xs.flatMap inCells).drop (j * 5) by
        rw [List.drop_append, List.drop_of_length_le (by show 5 ≤ _; omega), List.nil_append]
        congr 1
        show (j + 1) * 5 - 5 = _
        omega]
/-- A block that is a row of instructions. -/
theorem code_R {w : World} {g base : Nat} {cs : Array Value} {e : TypeId} (xs : List In) (h : w.heap[g]? = some (.cells cs e (0, 0))) (hs : cs.toList = xs.flatMap inCells) (hb : base ≤ g) (hm : xs.length ≤ 9223372036854775807) :
    Kd.R kIn e w base (fun _ => True) (.slice (some ⟨g, 0, none⟩) xs.length xs.length) xs := by
  have hr := code_reps w base (fun k => True ∧ some k ≠ (Value.slice (some ⟨g, 0, none⟩) xs.length xs.length).ownBlock) xs
  refine ⟨fun _ _ => trivial, xs.flatMap inCells, ⟨hr.1, .inr ⟨g, xs.length, cs, rfl, hb, h, Nat.le_refl _, by unfold maxLen; omega, ?_, ?_⟩⟩, hr⟩
  · rw [← Array.length_toList, hs]; exact hr.1
  · rw [hs, List.take_of_length_le]; exact Nat.le_of_eq hr.1
theorem info_in : (Try.prog.info? 24).map (fun i => (i.zero, i.size, i.bytes)) = some (some (.agg #[.int .i64 0, .int .i64 0, .int .i64 0, .int .i64 0, .int .i64 0]), 5, 40) := by kernel_rfl
/-- A block of one instruction, as an append reads it. -/
theorem one_in {w : World} {g : Nat} {t : TypeId} (x : In) (h : w.heap[g]? = some (.cells (inCells x).toArray t (0, 0))) : ReadsRow (fun (x : In) cs => cs = inCells x) 5 w (some ⟨g, 0, none⟩) 1 [x] :=
  ⟨rfl, by omega, fun _ => ⟨_, rfl, fun j p hj => by
    match j, hj with
    | 0, hj =>
      obtain rfl := Option.some.inj hj
      refine ⟨inCells x, rfl, rfl, fun i u hu => ?_⟩
      rw [addr_add0, blk_cell h]
      simpa using hu
    | j + 1, hj => simp at hj⟩⟩
end Go.Proofs.Ytimmglnbjgbbjaa
namespace Go.Proofs.Ytimmglnbjgbbjaa
open Go.RowKit Go.Proofs.YtimmglnbjgbbjaaW.PrintWords
/-- Whatever is read at a type is of a kind, and ok. -/
def Opens {α : Type} (P : Program) (t : TypeId) (d : Kd α) (ok : α → Prop) : Prop :=
  ∀ {H : Type} (enc : TypeId × Value → H) (w : World) (base : Nat) (spare : Nat → Bool) (held : Bool) (fuel : Nat) (cs : List Value) (x : DataW H × List MemPlace),
    DataW.trod enc P w base spare held fuel t cs = some x → ∃ a, d.K w a cs ∧ ok a
/-- The fields from one on. -/
def OpensF {α : Type} (P : Program) (fs : List Field) (off N : Nat) (d : Kd α) (ok : α → Prop) : Prop :=
  ∀ {H : Type} (enc : TypeId × Value → H) (w : World) (base : Nat) (spare : Nat → Bool) (held : Bool) (m : Nat) (cs : List Value), cs.length = N →
    (∀ f ∈ fs, ∃ y, DataW.trod enc P w base spare held m f.type ((cs.drop f.offset).take (P.cellsOf f.type)) = some y) → ∃ a, d.K w a (cs.drop off) ∧ ok a
section
variable {α β : Type} {P : Program} {t e : TypeId} {d : Kd α} {d2 : Kd β} {ok : α → Prop} {ok2 : β → Prop}
theorem Opens.mono {ok' : α → Prop} (h : Opens P t d ok) (hi : ∀ a, ok a → ok' a) : Opens P t d ok' := fun enc w base spare held fuel cs x hx => by
  obtain ⟨a, h1, h2⟩ := h enc w base spare held fuel cs x hx
  exact ⟨a, h1, hi a h2⟩
theorem opens_int {k : IntKind} (ht : P.underlying t = some (.int k)) : Opens P t (Kd.int k) (fun n => (Lit.int k n).wf = true) := fun enc w base spare held fuel cs x hx => by
  obtain ⟨n, h1, _, h3⟩ := DataW.trod_int ht hx
  exact ⟨n, h1, h3⟩
theorem opens_bool (ht : P.underlying t = some .bool) : Opens P t Kd.bool (fun _ => True) := fun enc w base spare held fuel cs x hx => by
  obtain ⟨b, h1, _⟩ := DataW.trod_bool ht hx
  exact ⟨b, h1, trivial⟩
theorem opens_iso (f : β → α) (g : α → β) (hfg : ∀ a, f (g a) = a) (h : Opens P t d ok) : Opens P t (Kd.iso d f) (fun b => ok (f b)) := fun enc w base spare held fuel cs x hx => by
  obtain ⟨a, h1, h2⟩ := h enc w base spare held fuel cs x hx
  exact ⟨g a, (show d.K w (f (g a)) cs by rw [hfg]; exact h1), (show ok (f (g a)) by rw [hfg]; exact h2)⟩
theorem reads_of {w : World} {A : Option Addr} {n : Nat} (D : Nat → α → Prop) (hn : n ≤ 9223372036854775807)
    (h : ∀ i, i < n → ∃ a, (∃ ad c, A = some ad ∧ c.length = d.sz ∧ d.K w a c ∧ ∀ j u, c[j]? = some u → w.cell? (ad.add (i * d.sz + j)) = some u) ∧ D i a) : ∃ xs : List α, Kd.C d w A n xs ∧ xs.length = n ∧ ∀ i x, xs[i]? = some x → D i x := by
  have hc : ∀ m, m ≤ n → ∃ xs : List α, xs.length = m ∧ ∀ i x, xs[i]? = some x → (∃ ad c, A = some ad ∧ c.length = d.sz ∧ d.K w x c ∧ ∀ j u, c[j]? = some u → w.cell? (ad.add (i * d.sz + j)) = some u) ∧ D i x := by
    intro m
    induction m with
    | zero => exact fun _ => ⟨[], rfl, fun i x hx => by simp at hx⟩
    | succ m ih =>
      intro hm
      obtain ⟨xs, hl, hx⟩ := ih (by omega)
      obtain ⟨a, ha, hD⟩ := h m (by omega)
      refine ⟨xs ++ [a], by simp [hl], fun i x hi => ?_⟩
      rcases Nat.lt_or_ge i xs.length with hlt | hge
      · rw [List.getElem?_append_left hlt] at hi
        exact hx i x hi
      · have hil : i < (xs ++ [a]).length := (List.getElem?_eq_some_iff.1 hi).1
        have e : i = m := by simp at hil; omega
        subst e
        rw [List.getElem?_append_right (by omega), hl, Nat.sub_self] at hi
        obtain rfl : a = x := by simpa using hi
        exact ⟨ha, hD⟩
  obtain ⟨xs, hl, hx⟩ := hc n (Nat.le_refl _)
  refine ⟨xs, ⟨hl, hn, fun h0 => ?_⟩, hl, fun i x hi => (hx i x hi).2⟩
  obtain ⟨⟨ad, c, hA, -, -, -⟩, -⟩ := hx 0 xs[0] (List.getElem?_eq_getElem (by omega))
  refine ⟨ad, hA, fun j p hp => ?_⟩
  obtain ⟨⟨ad', c, hA', h1, h2, h3⟩, -⟩ := hx j p hp
  obtain rfl : ad = ad' := Option.some.inj (hA.symm.trans hA')
  exact ⟨c, h1, h2, h3⟩
theorem opens_slice (ht : P.underlying t = some (.slice e)) (hc : P.cellsOf e = d.sz) (h : Opens P e d ok) : Opens P t (Kd.slice e d) (fun xs => ∀ x ∈ xs, ok x) := fun enc w base spare held fuel cs x hx => by
  rcases Go.Deep.open_slice ht hx with ⟨rfl, _⟩ | ⟨a, len, cap, m, n, D, Pl, rfl, hb, hl, hm, hm2, _, hel⟩
  · exact ⟨[], ⟨none, 0, rfl, Nat.le_refl _, rfl, by simp, fun h0 => by cases h0⟩, fun x hx => by cases hx⟩
  · have hlm : len ≤ m := by rw [hm2]; split <;> omega
    obtain ⟨xs, hC, hxl, hD⟩ := reads_of (d := d) (w := w) (A := some a) (n := len) (fun _ x => ok x) (by unfold maxLen at hm; omega) (fun i hi => by
      obtain ⟨cs', hcs, htr⟩ := hel i (by omega)
      obtain ⟨x, hK, hok⟩ := h enc w base spare held n cs' _ htr
      refine ⟨x, ⟨a, cs', rfl, d.K_len hK, hK, fun j u hu => ?_⟩, hok⟩
      rw [hc] at hcs
      obtain ⟨_, hcl, hce⟩ := World.cells?_some hcs
      have hjl : j < cs'.length := (List.getElem?_eq_some_iff.1 hu).1
      have hcell := (hce j (by omega)).trans hu
      have e1 : (a.add (i * d.sz)).add j = a.add (i * d.sz + j) := by unfold Addr.add; (repeat' split) <;> simp_all <;> omega
      rw [e1] at hcell
      exact hcell)
    subst hxl
    exact ⟨xs, ⟨some a, cap, rfl, hl, hC⟩, fun x hx => by
      obtain ⟨i, hi, rfl⟩ := List.mem_iff_getElem.1 hx
      exact hD i _ (List.getElem?_eq_getElem hi)⟩
theorem opens_cons {f : Field} {fs : List Field} {off c N : Nat} (hf : Opens P f.type d ok) (hoff : f.offset = off) (hc : P.cellsOf f.type = c) (hr : OpensF P fs (off + c) N d2 ok2) :
    OpensF P (f :: fs) off N (Kd.pair d d2) (fun x => ok x.1 ∧ ok2 x.2) := fun enc w base spare held m cs hl hy => by
  obtain ⟨y, h0⟩ := hy f (by simp)
  obtain ⟨a, h1, h2⟩ := hf enc w base spare held m _ y h0
  obtain ⟨b, h3, h4⟩ := hr enc w base spare held m cs hl (fun g hg => hy g (by simp [hg]))
  rw [hoff, hc] at h1
  refine ⟨(a, b), ⟨_, _, ?_, h1, h3⟩, h2, h4⟩
  rw [← List.drop_drop, List.take_append_drop]
theorem opens_last {f : Field} {off N : Nat} (hf : Opens P f.type d ok) (hoff : f.offset = off) (hc : off + P.cellsOf f.type = N) : OpensF P [f] off N d ok := fun enc w base spare held m cs hl hy => by
  obtain ⟨y, h0⟩ := hy f (by simp)
  obtain ⟨a, h1, h2⟩ := hf enc w base spare held m _ y h0
  refine ⟨a, ?_, h2⟩
  rwa [hoff, List.take_of_length_le (by rw [List.length_drop]; omega)] at h1
theorem opens_struct {fs : Array Field} {N : Nat} (ht : P.underlying t = some (.struct fs)) (hN : P.cellsOf t = N) (h : OpensF P fs.toList 0 N d ok) : Opens P t d ok := fun enc w base spare held fuel cs x hx => by
  obtain ⟨xs, n, _, rfl, hl, hlen, hf⟩ := DataW.trod_struct ht hx
  obtain ⟨a, h1, h2⟩ := h enc w base spare held n cs (by rw [hl, hN]) (fun f hf2 => by
    obtain ⟨i, hi, rfl⟩ := List.mem_iff_getElem.1 hf2
    have hi2 : i < fs.size := by simpa using hi
    have h3 := hf i fs.toList[i] (by rw [Array.getElem?_eq_getElem hi2, Array.getElem_toList])
    refine ⟨xs[i]'(by omega), ?_⟩
    rw [h3]
    exact List.getElem?_eq_getElem _)
  exact ⟨a, by simpa using h1, h2⟩
theorem opens_array {n : Nat} (hs : 0 < d.sz) (ht : P.underlying t = some (.array n e)) (hc : P.cellsOf e = d.sz) (hN : P.cellsOf t = n * d.sz) (h : Opens P e d ok) : Opens P t (Kd.arr n d hs) (fun xs => ∀ x ∈ xs, ok x) := fun enc w base spare held fuel cs x hx => by
  obtain ⟨xs, m, _, rfl, hl, hlen, hf⟩ := DataW.trod_array ht hx
  have hex : ∀ i, i < n → ∃ a, d.K w a ((cs.drop (i * d.sz)).take d.sz) ∧ ok a := fun i hi => by
    have h3 := hf i hi
    rw [List.getElem?_eq_getElem (by omega), hc] at h3
    exact h enc w base spare held m _ _ h3
  have hall : ∀ k, k ≤ n → ∃ l : List α, l.length = k ∧ ∀ i x, l[i]? = some x → d.K w x ((cs.drop (i * d.sz)).take d.sz) ∧ ok x := by
    intro k
    induction k with
    | zero => exact fun _ => ⟨[], rfl, fun i x hx => by simp at hx⟩
    | succ k ih =>
      intro hk
      obtain ⟨l, hl1, hl2⟩ := ih (by omega)
      obtain ⟨a, ha⟩ := hex k (by omega)
      refine ⟨l ++ [a], by simp [hl1], fun i x hi => ?_⟩
      rcases Nat.lt_or_ge i l.length with hlt | hge
      · rw [List.getElem?_append_left hlt] at hi
        exact hl2 i x hi
      · have hil : i < (l ++ [a]).length := (List.getElem?_eq_some_iff.1 hi).1
        have e : i = k := by simp at hil; omega
        subst e
        rw [List.getElem?_append_right (by omega), hl1, Nat.sub_self] at hi
        obtain rfl : a = x := by simpa using hi
        exact ha
  obtain ⟨l, h1, h2⟩ := hall n (Nat.le_refl _)
  exact ⟨l, ⟨h1, by rw [hl, hN, h1], fun j p hp => (h2 j p hp).1⟩, fun x hx => by
    obtain ⟨i, hi, rfl⟩ := List.mem_iff_getElem.1 hx
    exact (h2 i _ (List.getElem?_eq_getElem hi)).2⟩
end
end Go.Proofs.Ytimmglnbjgbbjaa
