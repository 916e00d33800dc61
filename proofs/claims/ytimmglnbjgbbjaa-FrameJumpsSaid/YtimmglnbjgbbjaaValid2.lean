/- One instruction looked at whole (package valid): it gives up just if the instruction may not be. No conditions. -/
import Derived.Test.YtimmglnbjgbbjaaValid1
import Derived.Test.YtimmglnbjgbbjaaPlan
set_option linter.unusedSimpArgs false
set_option linter.unusedVariables false
namespace Go.Proofs.Ytimmglnbjgbbjaa
open Go.RowKit Go.Proofs.YtimmglnbjgbbjaaW.PrintWords
def partN (op : Int) (j : Nat) : Int := match j with | 0 => (shapeP op).1 | 1 => (shapeP op).2.1 | 2 => (shapeP op).2.2.1 | _ => (shapeP op).2.2.2.1
def fieldN (x : In) (j : Nat) : Int := match j with | 0 => x.a | 1 => x.b | 2 => x.c | _ => x.k
def idleB (x : In) (j : Nat) : Bool := partN x.op j != 0 || fieldN x j == 0
def fitB (pl cl : Int) (x : In) (j : Nat) : Bool := fieldB pl cl (partN x.op j) (fieldN x j)
/-- May an instruction be, in a program of pl functions, in one of cl instructions? ar: the arity of the function that it names. -/
def instrB (pl cl ar : Int) (x : In) : Bool :=
  (shapeP x.op).2.2.2.2 && (idleB x 0 && idleB x 1 && idleB x 2 && idleB x 3) && (fitB pl cl x 0 && fitB pl cl x 1 && fitB pl cl x 2 && fitB pl cl x 3) && (partN x.op 2 != 3 || decide (ar ≤ 8 - x.b))
theorem partN_range (op : Int) (j : Nat) : 0 ≤ partN op j ∧ partN op j ≤ 6 := by
  have h : 0 ≤ (shapeP op).1 ∧ (shapeP op).1 ≤ 6 ∧ 0 ≤ (shapeP op).2.1 ∧ (shapeP op).2.1 ≤ 6 ∧ 0 ≤ (shapeP op).2.2.1 ∧ (shapeP op).2.2.1 ≤ 6 ∧ 0 ≤ (shapeP op).2.2.2.1 ∧ (shapeP op).2.2.2.1 ≤ 6 := by
    unfold shapeP
    split <;> (try split) <;> (try split) <;> (try split) <;> (try split) <;> (try split) <;> (try split) <;> (try split) <;> (try split) <;> (try split) <;> (try split) <;> simp
  unfold partN
  split <;> omega
theorem shape_fn {op a b k : Int} {is : Bool} (h : shapeP op = (a, b, 3, k, is)) : b = 1 := by
  unfold shapeP at h
  repeat' split at h
  all_goals (simp only [Prod.mk.injEq] at h; omega)
/-- What looking comes to. -/
def Gives (b : Bool) (f : Int) (en : Ending) : Prop := (b = true ∧ en = .returned (.tuple #[])) ∨ (b = false ∧ ∃ at_ e, e ≠ 0 ∧ en = .panicked (wrongC f at_ e))
theorem Gives.yes {f : Int} : Gives true f (.returned (.tuple #[])) := .inl ⟨rfl, rfl⟩
theorem Gives.no {b : Bool} {f at_ e : Int} (h : b = false) (he : e ≠ 0) : Gives b f (.panicked (wrongC f at_ e)) := .inr ⟨h, at_, e, he, rfl⟩
/-- The variables of 'instr' in memory. -/
structure InstrSt (w : World) (lv : Value) (fi at_ : Int) (x : In) (pa pb pc pk : Int) (b4 b6 b7 : Nat) (wx : World) : Prop where
  h2 : wx.heap[w.heap.size]? = some (.cells #[lv, .int .i64 fi, .int .i64 at_] 202 (0, 0))
  h3 : wx.heap[w.heap.size + 1]? = some (.cells #[.int .i64 x.op, .int .i64 x.a, .int .i64 x.b, .int .i64 x.c, .int .i64 x.k] 24 (0, 0))
  h4 : wx.heap[b4]? = some (.cells #[.int .i64 pa, .int .i64 pb, .int .i64 pc, .int .i64 pk] 234 (0, 0))
  h6 : wx.heap[b6]? = some (.cells #[.int .i64 x.a, .int .i64 x.b, .int .i64 x.c, .int .i64 x.k] 50 (0, 0))
  h7 : wx.heap[b7]? = some (.cells #[.int .i64 pa, .int .i64 pb, .int .i64 pc, .int .i64 pk] 237 (0, 0))
  be : Below w.heap.size w wx
theorem InstrSt.below {w : World} {lv : Value} {fi at_ : Int} {x : In} {pa pb pc pk : Int} {b4 b6 b7 : Nat} {wx w2 : World} (h : InstrSt w lv fi at_ x pa pb pc pk b4 b6 b7 wx) (hb : Below wx.heap.size wx w2) : InstrSt w lv fi at_ x pa pb pc pk b4 b6 b7 w2 :=
  ⟨blk_below h.h2 hb, blk_below h.h3 hb, blk_below h.h4 hb, blk_below h.h6 hb, blk_below h.h7 hb, below_thenB h.be hb⟩
set_option maxRecDepth 100000 in
set_option maxHeartbeats 4000000 in
theorem instr_any (A : Option Addr) (cp : Nat) (p : List Fn) (fi : Nat) (fn : Fn) (hf : p[fi]? = some fn) (x : In) (at_ : Int) (w : World) (hp : Kd.C (kFn 34) w A p.length p) (B : Bool)
    (hB : instrB p.length fn.code.length ((p[x.c.toNat]?.getD zFn).ar) x = B) :
    Calls Try.prog 95 #[.agg #[.slice A p.length cp, .int .i64 fi, .int .i64 at_], inV x] w fun en w' => Gives B fi en ∧ Below w.heap.size w w' := by
  obtain ⟨op, a, b, c, k⟩ := x
  have hpl := hp.2.1
  have HB : Hid _ := hB
  have HP := Lib.hid hp
  have HF := Lib.hid hf
  clear hB hp hf
  obtain ⟨pa, pb, pc, pk, is, hs⟩ : ∃ pa pb pc pk is, shapeP op = (pa, pb, pc, pk, is) := ⟨_, _, _, _, _, rfl⟩
  have HS := Lib.hid hs
  clear hs
  unfold inV
  simp only []
  cases is with
  | false =>
    go_enter Try.func95, Try.ntmps95
    go_wp2_with (first | (go_at_call 118; (with_reducible refine (shape_any _ _ _ _ _ _ HS.out _).mono ?_); rintro e w1 ⟨rfl, rfl⟩) | (go_at_call 94; (with_reducible refine (need_no _ _ _ _ _).mono ?_); rintro e w2 ⟨rfl, hb2⟩))
    exact ⟨rfl, Gives.no (by have h1 := HB.out; rw [← h1]; have h2 := HS.out; simp [instrB, h2]) (by decide), by (repeat (first | exact Below.refl _ _ | (with_reducible assumption) | refine below_thenB ?_ (by assumption) | refine below_alloc ?_ _ | refine below_drew ?_ | refine pw_below_drewN ?_ _ | refine Below.setCell ?_ (by first | (simp; done) | omega | (simp; omega)) _))⟩
  | true =>
    go_enter Try.func95, Try.ntmps95
    go_upto_region 3 with (first | (go_at_call 118; (with_reducible refine (shape_any _ _ _ _ _ _ HS.out _).mono ?_); rintro e w1 ⟨rfl, rfl⟩) | (go_at_call 94; (with_reducible refine (need_yes _ _ _ _ _).mono ?_); rintro e w2 ⟨rfl, rfl⟩))
    go_cut [6, 7] (fun s6 s7 wx => ∃ b6 b7, s6 = .pointer (some ⟨b6, 0, none⟩) ∧ s7 = .pointer (some ⟨b7, 0, none⟩) ∧ InstrSt w (.slice A p.length cp) fi at_ ⟨op, a, b, c, k⟩ pa pb pc pk (w.heap.size + 3) b6 b7 wx)
    case first =>
      refine plan_begin (fun _ => False) 21 22 rfl (by kernel_rfl) (fun hSk => ?_)
      (refine plan_q 0 rfl (by kernel_rfl) (by kernel_rfl) (by kernel_rfl) rfl rfl (fun _ _ _ _ h => h) hSk (by decide) (by kernel_rfl) (fun K hK => ?_); go_big_quiet_op; with_reducible refine hK _ ?_; clear hK K)
      (refine plan_q 1 rfl (by kernel_rfl) (by kernel_rfl) (by kernel_rfl) rfl rfl (fun _ _ _ _ h => h) hSk (by decide) (by kernel_rfl) (fun K hK => ?_); go_big_quiet_op; with_reducible refine hK _ ?_; clear hK K)
      (refine plan_q 2 rfl (by kernel_rfl) (by kernel_rfl) (by kernel_rfl) rfl rfl (fun _ _ _ _ h => h) hSk (by decide) (by kernel_rfl) (fun K hK => ?_); go_big_quiet_op; with_reducible refine hK _ ?_; clear hK K)
      (refine plan_q 3 rfl (by kernel_rfl) (by kernel_rfl) (by kernel_rfl) rfl rfl (fun _ _ _ _ h => h) hSk (by decide) (by kernel_rfl) (fun K hK => ?_); go_big_quiet_op; with_reducible refine hK _ ?_; clear hK K)
      (refine plan_q 4 rfl (by kernel_rfl) (by kernel_rfl) (by kernel_rfl) rfl rfl (fun _ _ _ _ h => h) hSk (by decide) (by kernel_rfl) (fun K hK => ?_); go_big_quiet_op; with_reducible refine hK _ ?_; clear hK K)
      (refine plan_q 5 rfl (by kernel_rfl) (by kernel_rfl) (by kernel_rfl) rfl rfl (fun _ _ _ _ h => h) hSk (by decide) (by kernel_rfl) (fun K hK => ?_); go_big_quiet_op; with_reducible refine hK _ ?_; clear hK K)
      (refine plan_q 6 rfl (by kernel_rfl) (by kernel_rfl) (by kernel_rfl) rfl rfl (fun _ _ _ _ h => h) hSk (by decide) (by kernel_rfl) (fun K hK => ?_); go_big_quiet_op; with_reducible refine hK _ ?_; clear hK K)
      (refine plan_q 7 rfl (by kernel_rfl) (by kernel_rfl) (by kernel_rfl) rfl rfl (fun _ _ _ _ h => h) hSk (by decide) (by kernel_rfl) (fun K hK => ?_); go_big_quiet_op; with_reducible refine hK _ ?_; clear hK K)
      (refine plan_q 8 rfl (by kernel_rfl) (by kernel_rfl) (by kernel_rfl) rfl rfl (fun _ _ _ _ h => h) hSk (by decide) (by kernel_rfl) (fun K hK => ?_); go_big_quiet_op; with_reducible refine hK _ ?_; clear hK K)
      (refine plan_q 9 rfl (by kernel_rfl) (by kernel_rfl) (by kernel_rfl) rfl rfl (fun _ _ _ _ h => h) hSk (by decide) (by kernel_rfl) (fun K hK => ?_); go_big_quiet_op; with_reducible refine hK _ ?_; clear hK K)
      (refine plan_q 10 rfl (by kernel_rfl) (by kernel_rfl) (by kernel_rfl) rfl rfl (fun _ _ _ _ h => h) hSk (by decide) (by kernel_rfl) (fun K hK => ?_); go_big_quiet_op; with_reducible refine hK _ ?_; clear hK K)
      (refine plan_q 11 rfl (by kernel_rfl) (by kernel_rfl) (by kernel_rfl) rfl rfl (fun _ _ _ _ h => h) hSk (by decide) (by kernel_rfl) (fun K hK => ?_); go_big_quiet_op; with_reducible refine hK _ ?_; clear hK K)
      (refine plan_q 12 rfl (by kernel_rfl) (by kernel_rfl) (by kernel_rfl) rfl rfl (fun _ _ _ _ h => h) hSk (by decide) (by kernel_rfl) (fun K hK => ?_); go_big_quiet_op; with_reducible refine hK _ ?_; clear hK K)
      (refine plan_q 13 rfl (by kernel_rfl) (by kernel_rfl) (by kernel_rfl) rfl rfl (fun _ _ _ _ h => h) hSk (by decide) (by kernel_rfl) (fun K hK => ?_); go_big_quiet_op; with_reducible refine hK _ ?_; clear hK K)
      (refine plan_q 14 rfl (by kernel_rfl) (by kernel_rfl) (by kernel_rfl) rfl rfl (fun _ _ _ _ h => h) hSk (by decide) (by kernel_rfl) (fun K hK => ?_); go_big_quiet_op; with_reducible refine hK _ ?_; clear hK K)
      (refine plan_q 15 rfl (by kernel_rfl) (by kernel_rfl) (by kernel_rfl) rfl rfl (fun _ _ _ _ h => h) hSk (by decide) (by kernel_rfl) (fun K hK => ?_); go_big_quiet_op; with_reducible refine hK _ ?_; clear hK K)
      (refine plan_q 16 rfl (by kernel_rfl) (by kernel_rfl) (by kernel_rfl) rfl rfl (fun _ _ _ _ h => h) hSk (by decide) (by kernel_rfl) (fun K hK => ?_); go_big_quiet_op; with_reducible refine hK _ ?_; clear hK K)
      (refine plan_q 17 rfl (by kernel_rfl) (by kernel_rfl) (by kernel_rfl) rfl rfl (fun _ _ _ _ h => h) hSk (by decide) (by kernel_rfl) (fun K hK => ?_); go_big_quiet_op; with_reducible refine hK _ ?_; clear hK K)
      refine plan_b 18 19 rfl rfl (by kernel_rfl) (fun K hK => ?_) (fun K hK => ?_)
      focus
        go_wp2_with (fail); (try simp only [Exit.then]); (try simp only [Act.put, List.setIfInBounds_toArray, List.set_cons_succ, List.set_cons_zero]); refine hK _ _ (fun hz0 => by clear hz0 hSk; (repeat (first | with_reducible exact Keep.refl _ _ | (with_reducible refine Keep.left ?_) | (with_reducible refine Keep.leftN ?_) | (with_reducible assumption) | (with_reducible refine Keep.setCell ?_ ?hs _; case hs => (first | (exact .inl rfl) | (simp; done) | (right; omega) | (right; simp; omega))) | (with_reducible refine Keep.allocs ?_ (by simp; done) _) | (with_reducible refine Keep.alloc ?_ _) | (with_reducible refine Keep.drew ?_) | (with_reducible refine Keep.drewN ?_ _) | refine Keep.thenBelow ?_ (by assumption) | refine Keep.grown ?_ (by assumption) (by intro k hk; (first | (cases hk; done) | (exfalso; simp [Value.ownBlock] at hk; done) | (simp [Value.ownBlock] at hk; subst hk; (first | (right; simp; omega) | (left; first | rfl | simp)))) ) | refine Keep.trans ?_ (by assumption) | (with_reducible refine Keep.allocs ?_ (by simp; done) _) | refine Keep.alloc ?_ _ | refine Keep.drew ?_ | refine Keep.drewN ?_ _ | refine Keep.setCell ?_ (by first | (exact .inl rfl) | (simp; done) | (right; omega) | (right; simp; omega)) _))) (fun hSk1 => ?_); clear hK K hSk; replace hSk1 := hSk1 (by decide); have hSk := hSk1; clear hSk1
        (refine plan_l 19 rfl (by kernel_rfl) (fun K hK => ?_); go_wp2_with (fail); (try simp only [Exit.then]); (try simp only [Act.put, List.setIfInBounds_toArray, List.set_cons_succ, List.set_cons_zero]); refine hK _ _ (fun hz0 => by clear hz0 hSk; (repeat (first | with_reducible exact Keep.refl _ _ | (with_reducible refine Keep.left ?_) | (with_reducible refine Keep.leftN ?_) | (with_reducible assumption) | (with_reducible refine Keep.setCell ?_ ?hs _; case hs => (first | (exact .inl rfl) | (simp; done) | (right; omega) | (right; simp; omega))) | (with_reducible refine Keep.allocs ?_ (by simp; done) _) | (with_reducible refine Keep.alloc ?_ _) | (with_reducible refine Keep.drew ?_) | (with_reducible refine Keep.drewN ?_ _) | refine Keep.thenBelow ?_ (by assumption) | refine Keep.grown ?_ (by assumption) (by intro k hk; (first | (cases hk; done) | (exfalso; simp [Value.ownBlock] at hk; done) | (simp [Value.ownBlock] at hk; subst hk; (first | (right; simp; omega) | (left; first | rfl | simp)))) ) | refine Keep.trans ?_ (by assumption) | (with_reducible refine Keep.allocs ?_ (by simp; done) _) | refine Keep.alloc ?_ _ | refine Keep.drew ?_ | refine Keep.drewN ?_ _ | refine Keep.setCell ?_ (by first | (exact .inl rfl) | (simp; done) | (right; omega) | (right; simp; omega)) _))) (fun hSk1 => ?_); clear hK K hSk; replace hSk1 := hSk1 (by decide); have hSk := hSk1; clear hSk1)
        (refine plan_l 20 rfl (by kernel_rfl) (fun K hK => ?_); go_wp2_with (fail); (try simp only [Exit.then]); (try simp only [Act.put, List.setIfInBounds_toArray, List.set_cons_succ, List.set_cons_zero]); refine hK _ _ (fun hz0 => by clear hz0 hSk; (repeat (first | with_reducible exact Keep.refl _ _ | (with_reducible refine Keep.left ?_) | (with_reducible refine Keep.leftN ?_) | (with_reducible assumption) | (with_reducible refine Keep.setCell ?_ ?hs _; case hs => (first | (exact .inl rfl) | (simp; done) | (right; omega) | (right; simp; omega))) | (with_reducible refine Keep.allocs ?_ (by simp; done) _) | (with_reducible refine Keep.alloc ?_ _) | (with_reducible refine Keep.drew ?_) | (with_reducible refine Keep.drewN ?_ _) | refine Keep.thenBelow ?_ (by assumption) | refine Keep.grown ?_ (by assumption) (by intro k hk; (first | (cases hk; done) | (exfalso; simp [Value.ownBlock] at hk; done) | (simp [Value.ownBlock] at hk; subst hk; (first | (right; simp; omega) | (left; first | rfl | simp)))) ) | refine Keep.trans ?_ (by assumption) | (with_reducible refine Keep.allocs ?_ (by simp; done) _) | refine Keep.alloc ?_ _ | refine Keep.drew ?_ | refine Keep.drewN ?_ _ | refine Keep.setCell ?_ (by first | (exact .inl rfl) | (simp; done) | (right; omega) | (right; simp; omega)) _))) (fun hSk1 => ?_); clear hK K hSk; replace hSk1 := hSk1 (by decide); have hSk := hSk1; clear hSk1)
        (refine plan_l 21 rfl (by kernel_rfl) (fun K hK => ?_); go_wp2_with (fail); (try simp only [Exit.then]); (try simp only [Act.put, List.setIfInBounds_toArray, List.set_cons_succ, List.set_cons_zero]); refine hK _ _ (fun hz0 => by exact absurd rfl hz0) (fun hSk1 => ?_); clear hK K hSk)
        refine plan_e (by kernel_rfl) ?_
        clear hSk1
      rotate_left
      focus
        go_wp2_with (fail); (try simp only [Exit.then]); (try simp only [Act.put, List.setIfInBounds_toArray, List.set_cons_succ, List.set_cons_zero]); refine hK _ _ (fun hz0 => by clear hz0 hSk; (repeat (first | with_reducible exact Keep.refl _ _ | (with_reducible refine Keep.left ?_) | (with_reducible refine Keep.leftN ?_) | (with_reducible assumption) | (with_reducible refine Keep.setCell ?_ ?hs _; case hs => (first | (exact .inl rfl) | (simp; done) | (right; omega) | (right; simp; omega))) | (with_reducible refine Keep.allocs ?_ (by simp; done) _) | (with_reducible refine Keep.alloc ?_ _) | (with_reducible refine Keep.drew ?_) | (with_reducible refine Keep.drewN ?_ _) | refine Keep.thenBelow ?_ (by assumption) | refine Keep.grown ?_ (by assumption) (by intro k hk; (first | (cases hk; done) | (exfalso; simp [Value.ownBlock] at hk; done) | (simp [Value.ownBlock] at hk; subst hk; (first | (right; simp; omega) | (left; first | rfl | simp)))) ) | refine Keep.trans ?_ (by assumption) | (with_reducible refine Keep.allocs ?_ (by simp; done) _) | refine Keep.alloc ?_ _ | refine Keep.drew ?_ | refine Keep.drewN ?_ _ | refine Keep.setCell ?_ (by first | (exact .inl rfl) | (simp; done) | (right; omega) | (right; simp; omega)) _))) (fun hSk1 => ?_); clear hK K hSk; replace hSk1 := hSk1 (by decide); have hSk := hSk1; clear hSk1
        (refine plan_l 18 rfl (by kernel_rfl) (fun K hK => ?_); go_wp2_with (fail); (try simp only [Exit.then]); (try simp only [Act.put, List.setIfInBounds_toArray, List.set_cons_succ, List.set_cons_zero]); refine hK _ _ (fun hz0 => by clear hz0 hSk; (repeat (first | with_reducible exact Keep.refl _ _ | (with_reducible refine Keep.left ?_) | (with_reducible refine Keep.leftN ?_) | (with_reducible assumption) | (with_reducible refine Keep.setCell ?_ ?hs _; case hs => (first | (exact .inl rfl) | (simp; done) | (right; omega) | (right; simp; omega))) | (with_reducible refine Keep.allocs ?_ (by simp; done) _) | (with_reducible refine Keep.alloc ?_ _) | (with_reducible refine Keep.drew ?_) | (with_reducible refine Keep.drewN ?_ _) | refine Keep.thenBelow ?_ (by assumption) | refine Keep.grown ?_ (by assumption) (by intro k hk; (first | (cases hk; done) | (exfalso; simp [Value.ownBlock] at hk; done) | (simp [Value.ownBlock] at hk; subst hk; (first | (right; simp; omega) | (left; first | rfl | simp)))) ) | refine Keep.trans ?_ (by assumption) | (with_reducible refine Keep.allocs ?_ (by simp; done) _) | refine Keep.alloc ?_ _ | refine Keep.drew ?_ | refine Keep.drewN ?_ _ | refine Keep.setCell ?_ (by first | (exact .inl rfl) | (simp; done) | (right; omega) | (right; simp; omega)) _))) (fun hSk1 => ?_); clear hK K hSk; replace hSk1 := hSk1 (by decide); have hSk := hSk1; clear hSk1)
        (refine plan_l 20 rfl (by kernel_rfl) (fun K hK => ?_); go_wp2_with (fail); (try simp only [Exit.then]); (try simp only [Act.put, List.setIfInBounds_toArray, List.set_cons_succ, List.set_cons_zero]); refine hK _ _ (fun hz0 => by clear hz0 hSk; (repeat (first | with_reducible exact Keep.refl _ _ | (with_reducible refine Keep.left ?_) | (with_reducible refine Keep.leftN ?_) | (with_reducible assumption) | (with_reducible refine Keep.setCell ?_ ?hs _; case hs => (first | (exact .inl rfl) | (simp; done) | (right; omega) | (right; simp; omega))) | (with_reducible refine Keep.allocs ?_ (by simp; done) _) | (with_reducible refine Keep.alloc ?_ _) | (with_reducible refine Keep.drew ?_) | (with_reducible refine Keep.drewN ?_ _) | refine Keep.thenBelow ?_ (by assumption) | refine Keep.grown ?_ (by assumption) (by intro k hk; (first | (cases hk; done) | (exfalso; simp [Value.ownBlock] at hk; done) | (simp [Value.ownBlock] at hk; subst hk; (first | (right; simp; omega) | (left; first | rfl | simp)))) ) | refine Keep.trans ?_ (by assumption) | (with_reducible refine Keep.allocs ?_ (by simp; done) _) | refine Keep.alloc ?_ _ | refine Keep.drew ?_ | refine Keep.drewN ?_ _ | refine Keep.setCell ?_ (by first | (exact .inl rfl) | (simp; done) | (right; omega) | (right; simp; omega)) _))) (fun hSk1 => ?_); clear hK K hSk; replace hSk1 := hSk1 (by decide); have hSk := hSk1; clear hSk1)
        (refine plan_l 21 rfl (by kernel_rfl) (fun K hK => ?_); go_wp2_with (fail); (try simp only [Exit.then]); (try simp only [Act.put, List.setIfInBounds_toArray, List.set_cons_succ, List.set_cons_zero]); refine hK _ _ (fun hz0 => by exact absurd rfl hz0) (fun hSk1 => ?_); clear hK K hSk)
        refine plan_e (by kernel_rfl) ?_
        clear hSk1
      rotate_left
      all_goals (go_wp2_with fail; go_meet)
      all_goals exact ⟨_, _, rfl, rfl, ⟨by (repeat (first | (with_reducible assumption) | (with_reducible refine heap_drew1 ?_) | (with_reducible refine heap_drewN1 ?_) | exact heap_at_alloc (by first | rfl | (simp; done) | (simp; omega)) | (with_reducible refine heap_lt_alloc ?_) | (refine heap_near ?_ (by first | rfl | (simp; done))) | (refine heap_far ?_ (by first | (simp; done) | (simp; omega))) | exact blk_below (by assumption) (by assumption))), by (repeat (first | (with_reducible assumption) | (with_reducible refine heap_drew1 ?_) | (with_reducible refine heap_drewN1 ?_) | exact heap_at_alloc (by first | rfl | (simp; done) | (simp; omega)) | (with_reducible refine heap_lt_alloc ?_) | (refine heap_near ?_ (by first | rfl | (simp; done))) | (refine heap_far ?_ (by first | (simp; done) | (simp; omega))) | exact blk_below (by assumption) (by assumption))), by (repeat (first | (with_reducible assumption) | (with_reducible refine heap_drew1 ?_) | (with_reducible refine heap_drewN1 ?_) | exact heap_at_alloc (by first | rfl | (simp; done) | (simp; omega)) | (with_reducible refine heap_lt_alloc ?_) | (refine heap_near ?_ (by first | rfl | (simp; done))) | (refine heap_far ?_ (by first | (simp; done) | (simp; omega))) | exact blk_below (by assumption) (by assumption))), by (repeat (first | (with_reducible assumption) | (with_reducible refine heap_drew1 ?_) | (with_reducible refine heap_drewN1 ?_) | exact heap_at_alloc (by first | rfl | (simp; done) | (simp; omega)) | (with_reducible refine heap_lt_alloc ?_) | (refine heap_near ?_ (by first | rfl | (simp; done))) | (refine heap_far ?_ (by first | (simp; done) | (simp; omega))) | exact blk_below (by assumption) (by assumption))), by (repeat (first | (with_reducible assumption) | (with_reducible refine heap_drew1 ?_) | (with_reducible refine heap_drewN1 ?_) | exact heap_at_alloc (by first | rfl | (simp; done) | (simp; omega)) | (with_reducible refine heap_lt_alloc ?_) | (refine heap_near ?_ (by first | rfl | (simp; done))) | (refine heap_far ?_ (by first | (simp; done) | (simp; omega))) | exact blk_below (by assumption) (by assumption))), by (repeat (first | exact Below.refl _ _ | (with_reducible assumption) | refine below_thenB ?_ (by assumption) | refine below_alloc ?_ _ | refine below_drew ?_ | refine pw_below_drewN ?_ _ | refine Below.setCell ?_ (by first | (simp; done) | omega | (simp; omega)) _))⟩⟩
    case rest =>
      obtain ⟨b6, b7, rfl, rfl, hst⟩ := hcut
      have hs := HS.out
      have hP : partN op 0 = pa ∧ partN op 1 = pb ∧ partN op 2 = pc ∧ partN op 3 = pk := by simp [partN, hs]
      have HN := Lib.hid hP
      have HST := Aside0.mk hst
      clear hP hs
      have c7 := fun j => blk_cell hst.h7 j
      clear hst
      go_wp2_with fail
      clear c7
      go_loopw [40] (fun v40 wr => ∃ n : Int, 0 ≤ n ∧ n ≤ 4 ∧ v40 = .int .i64 n ∧ Aside0 (∀ j : Nat, (j : Int) < n → idleB ⟨op, a, b, c, k⟩ j = true) ∧ Aside0 (InstrSt w (.slice A p.length cp) fi at_ ⟨op, a, b, c, k⟩ pa pb pc pk (w.heap.size + 3) b6 b7 wr)) (fun v _ => (4 - intOf v).toNat)
      case atStart => exact ⟨0, by omega, by omega, rfl, ⟨fun j hj => by omega⟩, HST⟩
      case round =>
        clear HST
        obtain ⟨n, hn0, hn, rfl, HI, HST⟩ := hrel
        have c2 := fun j => blk_cell HST.out.h2 j
        have c6 := fun j => blk_cell HST.out.h6 j
        have i0 : ∀ w, (Instr.index 237 (.agg #[.int .i64 pa, .int .i64 pb, .int .i64 pc, .int .i64 pk]) (.int .i64 0)).run Try.prog w = .ok (.int .i64 pa) w := fun _ => by kernel_rfl
        have i1 : ∀ w, (Instr.index 237 (.agg #[.int .i64 pa, .int .i64 pb, .int .i64 pc, .int .i64 pk]) (.int .i64 1)).run Try.prog w = .ok (.int .i64 pb) w := fun _ => by kernel_rfl
        have i2 : ∀ w, (Instr.index 237 (.agg #[.int .i64 pa, .int .i64 pb, .int .i64 pc, .int .i64 pk]) (.int .i64 2)).run Try.prog w = .ok (.int .i64 pc) w := fun _ => by kernel_rfl
        have i3 : ∀ w, (Instr.index 237 (.agg #[.int .i64 pa, .int .i64 pb, .int .i64 pc, .int .i64 pk]) (.int .i64 3)).run Try.prog w = .ok (.int .i64 pk) w := fun _ => by kernel_rfl
        rcases show n = 0 ∨ n = 1 ∨ n = 2 ∨ n = 3 ∨ n = 4 from by omega with rfl | rfl | rfl | rfl | rfl
        · by_cases hz : pa = 0
          · by_cases hy : a = 0
            · have hz1 : (pa != 0) = false := by simpa using hz
              have hy1 : (a == 0) = true := by simpa using hy
              clear hz hy
              go_wp2_with fail
              (refine wp_region_head 9 (by kernel_rfl) (by kernel_rfl) ?_; simp only [List.take_succ_cons, List.take_zero, List.drop_succ_cons, List.drop_zero]; (iterate 9 (go_big_quiet_step (fail))); with_reducible refine wpQuiet_nil ?_)
              go_wp2_with (go_at_call 94; (with_reducible refine (need_yes _ _ _ _ _).mono ?_); rintro e w2 ⟨rfl, rfl⟩)
              go_roundw
              case rel => exact ⟨1, by omega, by omega, rfl, ⟨fun j hj => by
                rcases show (j : Int) < 0 ∨ j = 0 from by omega with h | rfl
                · exact HI.out j h
                · have h := HN.out.1; simp [idleB, fieldN, h, hz1, hy1]⟩, ⟨HST.out.below (by (repeat (first | exact Below.refl _ _ | (with_reducible assumption) | refine below_thenB ?_ (by assumption) | refine below_alloc ?_ _ | refine below_drew ?_ | refine pw_below_drewN ?_ _ | refine Below.setCell ?_ (by first | (simp; done) | omega | (simp; omega)) _)))⟩⟩
              case measure => simp [intOf]
            · have hz1 : (pa != 0) = false := by simpa using hz
              have hy1 : (a == 0) = false := by simpa using hy
              clear hz hy
              go_wp2_with fail
              (refine wp_region_head 9 (by kernel_rfl) (by kernel_rfl) ?_; simp only [List.take_succ_cons, List.take_zero, List.drop_succ_cons, List.drop_zero]; (iterate 9 (go_big_quiet_step (fail))); with_reducible refine wpQuiet_nil ?_)
              go_wp2_with (go_at_call 94; (with_reducible refine (need_no _ _ _ _ _).mono ?_); rintro e w2 ⟨rfl, hbn⟩)
              have hbe := HST.out.be
              exact ⟨rfl, Gives.no (by rw [← HB.out]; have h := HN.out.1; have h1 : idleB ⟨op, a, b, c, k⟩ 0 = false := (by simp [idleB, fieldN, h, hz1, hy1]); simp [instrB, h1]) (by decide), by (repeat (first | exact Below.refl _ _ | (with_reducible assumption) | refine below_thenB ?_ (by assumption) | refine below_alloc ?_ _ | refine below_drew ?_ | refine pw_below_drewN ?_ _ | refine Below.setCell ?_ (by first | (simp; done) | omega | (simp; omega)) _))⟩
          · have hz1 : (pa != 0) = true := by simpa using hz
            clear hz
            go_wp2_with fail
            (refine wp_region_head 9 (by kernel_rfl) (by kernel_rfl) ?_; simp only [List.take_succ_cons, List.take_zero, List.drop_succ_cons, List.drop_zero]; (iterate 9 (go_big_quiet_step (fail))); with_reducible refine wpQuiet_nil ?_)
            go_wp2_with (go_at_call 94; (with_reducible refine (need_yes _ _ _ _ _).mono ?_); rintro e w2 ⟨rfl, rfl⟩)
            go_roundw
            case rel => exact ⟨1, by omega, by omega, rfl, ⟨fun j hj => by
                rcases show (j : Int) < 0 ∨ j = 0 from by omega with h | rfl
                · exact HI.out j h
                · have h := HN.out.1; simp [idleB, fieldN, h, hz1]⟩, ⟨HST.out.below (by (repeat (first | exact Below.refl _ _ | (with_reducible assumption) | refine below_thenB ?_ (by assumption) | refine below_alloc ?_ _ | refine below_drew ?_ | refine pw_below_drewN ?_ _ | refine Below.setCell ?_ (by first | (simp; done) | omega | (simp; omega)) _)))⟩⟩
            case measure => simp [intOf]
        · by_cases hz : pb = 0
          · by_cases hy : b = 0
            · have hz1 : (pb != 0) = false := by simpa using hz
              have hy1 : (b == 0) = true := by simpa using hy
              clear hz hy
              go_wp2_with fail
              (refine wp_region_head 9 (by kernel_rfl) (by kernel_rfl) ?_; simp only [List.take_succ_cons, List.take_zero, List.drop_succ_cons, List.drop_zero]; (iterate 9 (go_big_quiet_step (fail))); with_reducible refine wpQuiet_nil ?_)
              go_wp2_with (go_at_call 94; (with_reducible refine (need_yes _ _ _ _ _).mono ?_); rintro e w2 ⟨rfl, rfl⟩)
              go_roundw
              case rel => exact ⟨2, by omega, by omega, rfl, ⟨fun j hj => by
                rcases show (j : Int) < 1 ∨ j = 1 from by omega with h | rfl
                · exact HI.out j h
                · have h := HN.out.2.1; simp [idleB, fieldN, h, hz1, hy1]⟩, ⟨HST.out.below (by (repeat (first | exact Below.refl _ _ | (with_reducible assumption) | refine below_thenB ?_ (by assumption) | refine below_alloc ?_ _ | refine below_drew ?_ | refine pw_below_drewN ?_ _ | refine Below.setCell ?_ (by first | (simp; done) | omega | (simp; omega)) _)))⟩⟩
              case measure => simp [intOf]
            · have hz1 : (pb != 0) = false := by simpa using hz
              have hy1 : (b == 0) = false := by simpa using hy
              clear hz hy
              go_wp2_with fail
              (refine wp_region_head 9 (by kernel_rfl) (by kernel_rfl) ?_; simp only [List.take_succ_cons, List.take_zero, List.drop_succ_cons, List.drop_zero]; (iterate 9 (go_big_quiet_step (fail))); with_reducible refine wpQuiet_nil ?_)
              go_wp2_with (go_at_call 94; (with_reducible refine (need_no _ _ _ _ _).mono ?_); rintro e w2 ⟨rfl, hbn⟩)
              have hbe := HST.out.be
              exact ⟨rfl, Gives.no (by rw [← HB.out]; have h := HN.out.2.1; have h1 : idleB ⟨op, a, b, c, k⟩ 1 = false := (by simp [idleB, fieldN, h, hz1, hy1]); simp [instrB, h1]) (by decide), by (repeat (first | exact Below.refl _ _ | (with_reducible assumption) | refine below_thenB ?_ (by assumption) | refine below_alloc ?_ _ | refine below_drew ?_ | refine pw_below_drewN ?_ _ | refine Below.setCell ?_ (by first | (simp; done) | omega | (simp; omega)) _))⟩
          · have hz1 : (pb != 0) = true := by simpa using hz
            clear hz
            go_wp2_with fail
            (refine wp_region_head 9 (by kernel_rfl) (by kernel_rfl) ?_; simp only [List.take_succ_cons, List.take_zero, List.drop_succ_cons, List.drop_zero]; (iterate 9 (go_big_quiet_step (fail))); with_reducible refine wpQuiet_nil ?_)
            go_wp2_with (go_at_call 94; (with_reducible refine (need_yes _ _ _ _ _).mono ?_); rintro e w2 ⟨rfl, rfl⟩)
            go_roundw
            case rel => exact ⟨2, by omega, by omega, rfl, ⟨fun j hj => by
                rcases show (j : Int) < 1 ∨ j = 1 from by omega with h | rfl
                · exact HI.out j h
                · have h := HN.out.2.1; simp [idleB, fieldN, h, hz1]⟩, ⟨HST.out.below (by (repeat (first | exact Below.refl _ _ | (with_reducible assumption) | refine below_thenB ?_ (by assumption) | refine below_alloc ?_ _ | refine below_drew ?_ | refine pw_below_drewN ?_ _ | refine Below.setCell ?_ (by first | (simp; done) | omega | (simp; omega)) _)))⟩⟩
            case measure => simp [intOf]
        · by_cases hz : pc = 0
          · by_cases hy : c = 0
            · have hz1 : (pc != 0) = false := by simpa using hz
              have hy1 : (c == 0) = true := by simpa using hy
              clear hz hy
              go_wp2_with fail
              (refine wp_region_head 9 (by kernel_rfl) (by kernel_rfl) ?_; simp only [List.take_succ_cons, List.take_zero, List.drop_succ_cons, List.drop_zero]; (iterate 9 (go_big_quiet_step (fail))); with_reducible refine wpQuiet_nil ?_)
              go_wp2_with (go_at_call 94; (with_reducible refine (need_yes _ _ _ _ _).mono ?_); rintro e w2 ⟨rfl, rfl⟩)
              go_roundw
              case rel => exact ⟨3, by omega, by omega, rfl, ⟨fun j hj => by
                rcases show (j : Int) < 2 ∨ j = 2 from by omega with h | rfl
                · exact HI.out j h
                · have h := HN.out.2.2.1; simp [idleB, fieldN, h, hz1, hy1]⟩, ⟨HST.out.below (by (repeat (first | exact Below.refl _ _ | (with_reducible assumption) | refine below_thenB ?_ (by assumption) | refine below_alloc ?_ _ | refine below_drew ?_ | refine pw_below_drewN ?_ _ | refine Below.setCell ?_ (by first | (simp; done) | omega | (simp; omega)) _)))⟩⟩
              case measure => simp [intOf]
            · have hz1 : (pc != 0) = false := by simpa using hz
              have hy1 : (c == 0) = false := by simpa using hy
              clear hz hy
              go_wp2_with fail
              (refine wp_region_head 9 (by kernel_rfl) (by kernel_rfl) ?_; simp only [List.take_succ_cons, List.take_zero, List.drop_succ_cons, List.drop_zero]; (iterate 9 (go_big_quiet_step (fail))); with_reducible refine wpQuiet_nil ?_)
              go_wp2_with (go_at_call 94; (with_reducible refine (need_no _ _ _ _ _).mono ?_); rintro e w2 ⟨rfl, hbn⟩)
              have hbe := HST.out.be
              exact ⟨rfl, Gives.no (by rw [← HB.out]; have h := HN.out.2.2.1; have h1 : idleB ⟨op, a, b, c, k⟩ 2 = false := (by simp [idleB, fieldN, h, hz1, hy1]); simp [instrB, h1]) (by decide), by (repeat (first | exact Below.refl _ _ | (with_reducible assumption) | refine below_thenB ?_ (by assumption) | refine below_alloc ?_ _ | refine below_drew ?_ | refine pw_below_drewN ?_ _ | refine Below.setCell ?_ (by first | (simp; done) | omega | (simp; omega)) _))⟩
          · have hz1 : (pc != 0) = true := by simpa using hz
            clear hz
            go_wp2_with fail
            (refine wp_region_head 9 (by kernel_rfl) (by kernel_rfl) ?_; simp only [List.take_succ_cons, List.take_zero, List.drop_succ_cons, List.drop_zero]; (iterate 9 (go_big_quiet_step (fail))); with_reducible refine wpQuiet_nil ?_)
            go_wp2_with (go_at_call 94; (with_reducible refine (need_yes _ _ _ _ _).mono ?_); rintro e w2 ⟨rfl, rfl⟩)
            go_roundw
            case rel => exact ⟨3, by omega, by omega, rfl, ⟨fun j hj => by
                rcases show (j : Int) < 2 ∨ j = 2 from by omega with h | rfl
                · exact HI.out j h
                · have h := HN.out.2.2.1; simp [idleB, fieldN, h, hz1]⟩, ⟨HST.out.below (by (repeat (first | exact Below.refl _ _ | (with_reducible assumption) | refine below_thenB ?_ (by assumption) | refine below_alloc ?_ _ | refine below_drew ?_ | refine pw_below_drewN ?_ _ | refine Below.setCell ?_ (by first | (simp; done) | omega | (simp; omega)) _)))⟩⟩
            case measure => simp [intOf]
        · by_cases hz : pk = 0
          · by_cases hy : k = 0
            · have hz1 : (pk != 0) = false := by simpa using hz
              have hy1 : (k == 0) = true := by simpa using hy
              clear hz hy
              go_wp2_with fail
              (refine wp_region_head 9 (by kernel_rfl) (by kernel_rfl) ?_; simp only [List.take_succ_cons, List.take_zero, List.drop_succ_cons, List.drop_zero]; (iterate 9 (go_big_quiet_step (fail))); with_reducible refine wpQuiet_nil ?_)
              go_wp2_with (go_at_call 94; (with_reducible refine (need_yes _ _ _ _ _).mono ?_); rintro e w2 ⟨rfl, rfl⟩)
              go_roundw
              case rel => exact ⟨4, by omega, by omega, rfl, ⟨fun j hj => by
                rcases show (j : Int) < 3 ∨ j = 3 from by omega with h | rfl
                · exact HI.out j h
                · have h := HN.out.2.2.2; simp [idleB, fieldN, h, hz1, hy1]⟩, ⟨HST.out.below (by (repeat (first | exact Below.refl _ _ | (with_reducible assumption) | refine below_thenB ?_ (by assumption) | refine below_alloc ?_ _ | refine below_drew ?_ | refine pw_below_drewN ?_ _ | refine Below.setCell ?_ (by first | (simp; done) | omega | (simp; omega)) _)))⟩⟩
              case measure => simp [intOf]
            · have hz1 : (pk != 0) = false := by simpa using hz
              have hy1 : (k == 0) = false := by simpa using hy
              clear hz hy
              go_wp2_with fail
              (refine wp_region_head 9 (by kernel_rfl) (by kernel_rfl) ?_; simp only [List.take_succ_cons, List.take_zero, List.drop_succ_cons, List.drop_zero]; (iterate 9 (go_big_quiet_step (fail))); with_reducible refine wpQuiet_nil ?_)
              go_wp2_with (go_at_call 94; (with_reducible refine (need_no _ _ _ _ _).mono ?_); rintro e w2 ⟨rfl, hbn⟩)
              have hbe := HST.out.be
              exact ⟨rfl, Gives.no (by rw [← HB.out]; have h := HN.out.2.2.2; have h1 : idleB ⟨op, a, b, c, k⟩ 3 = false := (by simp [idleB, fieldN, h, hz1, hy1]); simp [instrB, h1]) (by decide), by (repeat (first | exact Below.refl _ _ | (with_reducible assumption) | refine below_thenB ?_ (by assumption) | refine below_alloc ?_ _ | refine below_drew ?_ | refine pw_below_drewN ?_ _ | refine Below.setCell ?_ (by first | (simp; done) | omega | (simp; omega)) _))⟩
          · have hz1 : (pk != 0) = true := by simpa using hz
            clear hz
            go_wp2_with fail
            (refine wp_region_head 9 (by kernel_rfl) (by kernel_rfl) ?_; simp only [List.take_succ_cons, List.take_zero, List.drop_succ_cons, List.drop_zero]; (iterate 9 (go_big_quiet_step (fail))); with_reducible refine wpQuiet_nil ?_)
            go_wp2_with (go_at_call 94; (with_reducible refine (need_yes _ _ _ _ _).mono ?_); rintro e w2 ⟨rfl, rfl⟩)
            go_roundw
            case rel => exact ⟨4, by omega, by omega, rfl, ⟨fun j hj => by
                rcases show (j : Int) < 3 ∨ j = 3 from by omega with h | rfl
                · exact HI.out j h
                · have h := HN.out.2.2.2; simp [idleB, fieldN, h, hz1]⟩, ⟨HST.out.below (by (repeat (first | exact Below.refl _ _ | (with_reducible assumption) | refine below_thenB ?_ (by assumption) | refine below_alloc ?_ _ | refine below_drew ?_ | refine pw_below_drewN ?_ _ | refine Below.setCell ?_ (by first | (simp; done) | omega | (simp; omega)) _)))⟩⟩
            case measure => simp [intOf]
        · have c7 := fun j => blk_cell HST.out.h7 j
          go_wp2_with fail
          clear c7 c2 c6 hn0 hn
          have HU : Aside0 (∀ j : Nat, (j : Int) < 4 → idleB ⟨op, a, b, c, k⟩ j = true) := HI
          clear HI
          have hst4 := HST
          clear HST
          go_loopw [56] (fun v56 wr => ∃ n : Int, 0 ≤ n ∧ n ≤ 4 ∧ v56 = .int .i64 n ∧ Aside0 (∀ j : Nat, (j : Int) < n → fitB p.length fn.code.length ⟨op, a, b, c, k⟩ j = true) ∧ Aside0 (InstrSt w (.slice A p.length cp) fi at_ ⟨op, a, b, c, k⟩ pa pb pc pk (w.heap.size + 3) b6 b7 wr)) (fun v _ => (4 - intOf v).toNat)
          case atStart => exact ⟨0, by omega, by omega, rfl, ⟨fun j hj => by omega⟩, hst4⟩
          case round =>
            clear hst4
            obtain ⟨n, hn0, hn, rfl, HI, HST⟩ := hrel
            have c2 := fun j => blk_cell HST.out.h2 j
            have c6 := fun j => blk_cell HST.out.h6 j
            rcases show n = 0 ∨ n = 1 ∨ n = 2 ∨ n = 3 ∨ n = 4 from by omega with rfl | rfl | rfl | rfl | rfl
            · have hr : 0 ≤ pa ∧ pa ≤ 6 := by have h := partN_range op 0; rw [HN.out.1] at h; exact h
              have HR := Lib.hid hr
              clear hr
              have hbe := HST.out.be
              cases hfit : fieldB p.length fn.code.length pa a with
              | true =>
                have HFIT := Lib.hid hfit
                clear hfit
                go_wp2_with fail
                (refine wp_region_head 5 (by kernel_rfl) (by kernel_rfl) ?_; simp only [List.take_succ_cons, List.take_zero, List.drop_succ_cons, List.drop_zero]; (iterate 5 (go_big_quiet_step (fail))); with_reducible refine wpQuiet_nil ?_)
                go_wp2_with (go_at_call 119; (with_reducible refine (field_yes _ _ p fi fn HF.out _ _ _ _ (Kd.C_below HP.out (by (repeat (first | exact Below.refl _ _ | (with_reducible assumption) | refine below_thenB ?_ (by assumption) | refine below_alloc ?_ _ | refine below_drew ?_ | refine pw_below_drewN ?_ _ | refine Below.setCell ?_ (by first | (simp; done) | omega | (simp; omega)) _)))) HR.out.1 HR.out.2 HFIT.out).mono ?_); rintro e w2 ⟨rfl, hb2⟩)
                go_roundw
                case rel => exact ⟨1, by omega, by omega, rfl, ⟨fun j hj => by
                  rcases show (j : Int) < 0 ∨ j = 0 from by omega with h | rfl
                  · exact HI.out j h
                  · have h := HN.out.1; simp only [fitB, fieldN, h]; exact HFIT.out⟩, ⟨HST.out.below (by (repeat (first | exact Below.refl _ _ | (with_reducible assumption) | refine below_thenB ?_ (by assumption) | refine below_alloc ?_ _ | refine below_drew ?_ | refine pw_below_drewN ?_ _ | refine Below.setCell ?_ (by first | (simp; done) | omega | (simp; omega)) _)))⟩⟩
                case measure => simp [intOf]
              | false =>
                have HFIT := Lib.hid hfit
                clear hfit
                go_wp2_with fail
                (refine wp_region_head 5 (by kernel_rfl) (by kernel_rfl) ?_; simp only [List.take_succ_cons, List.take_zero, List.drop_succ_cons, List.drop_zero]; (iterate 5 (go_big_quiet_step (fail))); with_reducible refine wpQuiet_nil ?_)
                go_wp2_with (go_at_call 119; (with_reducible refine (field_no _ _ p fi fn HF.out _ _ _ _ (Kd.C_below HP.out (by (repeat (first | exact Below.refl _ _ | (with_reducible assumption) | refine below_thenB ?_ (by assumption) | refine below_alloc ?_ _ | refine below_drew ?_ | refine pw_below_drewN ?_ _ | refine Below.setCell ?_ (by first | (simp; done) | omega | (simp; omega)) _)))) HR.out.1 HR.out.2 HFIT.out).mono ?_); rintro e w2 ⟨⟨e2, he2, rfl⟩, hb2⟩)
                exact ⟨rfl, Gives.no (by rw [← HB.out]; have h := HN.out.1; have h1 : fitB p.length fn.code.length ⟨op, a, b, c, k⟩ 0 = false := (by simp only [fitB, fieldN, h]; exact HFIT.out); simp [instrB, h1]) he2, by (repeat (first | exact Below.refl _ _ | (with_reducible assumption) | refine below_thenB ?_ (by assumption) | refine below_alloc ?_ _ | refine below_drew ?_ | refine pw_below_drewN ?_ _ | refine Below.setCell ?_ (by first | (simp; done) | omega | (simp; omega)) _))⟩
            · have hr : 0 ≤ pb ∧ pb ≤ 6 := by have h := partN_range op 1; rw [HN.out.2.1] at h; exact h
              have HR := Lib.hid hr
              clear hr
              have hbe := HST.out.be
              cases hfit : fieldB p.length fn.code.length pb b with
              | true =>
                have HFIT := Lib.hid hfit
                clear hfit
                go_wp2_with fail
                (refine wp_region_head 5 (by kernel_rfl) (by kernel_rfl) ?_; simp only [List.take_succ_cons, List.take_zero, List.drop_succ_cons, List.drop_zero]; (iterate 5 (go_big_quiet_step (fail))); with_reducible refine wpQuiet_nil ?_)
                go_wp2_with (go_at_call 119; (with_reducible refine (field_yes _ _ p fi fn HF.out _ _ _ _ (Kd.C_below HP.out (by (repeat (first | exact Below.refl _ _ | (with_reducible assumption) | refine below_thenB ?_ (by assumption) | refine below_alloc ?_ _ | refine below_drew ?_ | refine pw_below_drewN ?_ _ | refine Below.setCell ?_ (by first | (simp; done) | omega | (simp; omega)) _)))) HR.out.1 HR.out.2 HFIT.out).mono ?_); rintro e w2 ⟨rfl, hb2⟩)
                go_roundw
                case rel => exact ⟨2, by omega, by omega, rfl, ⟨fun j hj => by
                  rcases show (j : Int) < 1 ∨ j = 1 from by omega with h | rfl
                  · exact HI.out j h
                  · have h := HN.out.2.1; simp only [fitB, fieldN, h]; exact HFIT.out⟩, ⟨HST.out.below (by (repeat (first | exact Below.refl _ _ | (with_reducible assumption) | refine below_thenB ?_ (by assumption) | refine below_alloc ?_ _ | refine below_drew ?_ | refine pw_below_drewN ?_ _ | refine Below.setCell ?_ (by first | (simp; done) | omega | (simp; omega)) _)))⟩⟩
                case measure => simp [intOf]
              | false =>
                have HFIT := Lib.hid hfit
                clear hfit
                go_wp2_with fail
                (refine wp_region_head 5 (by kernel_rfl) (by kernel_rfl) ?_; simp only [List.take_succ_cons, List.take_zero, List.drop_succ_cons, List.drop_zero]; (iterate 5 (go_big_quiet_step (fail))); with_reducible refine wpQuiet_nil ?_)
                go_wp2_with (go_at_call 119; (with_reducible refine (field_no _ _ p fi fn HF.out _ _ _ _ (Kd.C_below HP.out (by (repeat (first | exact Below.refl _ _ | (with_reducible assumption) | refine below_thenB ?_ (by assumption) | refine below_alloc ?_ _ | refine below_drew ?_ | refine pw_below_drewN ?_ _ | refine Below.setCell ?_ (by first | (simp; done) | omega | (simp; omega)) _)))) HR.out.1 HR.out.2 HFIT.out).mono ?_); rintro e w2 ⟨⟨e2, he2, rfl⟩, hb2⟩)
                exact ⟨rfl, Gives.no (by rw [← HB.out]; have h := HN.out.2.1; have h1 : fitB p.length fn.code.length ⟨op, a, b, c, k⟩ 1 = false := (by simp only [fitB, fieldN, h]; exact HFIT.out); simp [instrB, h1]) he2, by (repeat (first | exact Below.refl _ _ | (with_reducible assumption) | refine below_thenB ?_ (by assumption) | refine below_alloc ?_ _ | refine below_drew ?_ | refine pw_below_drewN ?_ _ | refine Below.setCell ?_ (by first | (simp; done) | omega | (simp; omega)) _))⟩
            · have hr : 0 ≤ pc ∧ pc ≤ 6 := by have h := partN_range op 2; rw [HN.out.2.2.1] at h; exact h
              have HR := Lib.hid hr
              clear hr
              have hbe := HST.out.be
              cases hfit : fieldB p.length fn.code.length pc c with
              | true =>
                have HFIT := Lib.hid hfit
                clear hfit
                go_wp2_with fail
                (refine wp_region_head 5 (by kernel_rfl) (by kernel_rfl) ?_; simp only [List.take_succ_cons, List.take_zero, List.drop_succ_cons, List.drop_zero]; (iterate 5 (go_big_quiet_step (fail))); with_reducible refine wpQuiet_nil ?_)
                go_wp2_with (go_at_call 119; (with_reducible refine (field_yes _ _ p fi fn HF.out _ _ _ _ (Kd.C_below HP.out (by (repeat (first | exact Below.refl _ _ | (with_reducible assumption) | refine below_thenB ?_ (by assumption) | refine below_alloc ?_ _ | refine below_drew ?_ | refine pw_below_drewN ?_ _ | refine Below.setCell ?_ (by first | (simp; done) | omega | (simp; omega)) _)))) HR.out.1 HR.out.2 HFIT.out).mono ?_); rintro e w2 ⟨rfl, hb2⟩)
                go_roundw
                case rel => exact ⟨3, by omega, by omega, rfl, ⟨fun j hj => by
                  rcases show (j : Int) < 2 ∨ j = 2 from by omega with h | rfl
                  · exact HI.out j h
                  · have h := HN.out.2.2.1; simp only [fitB, fieldN, h]; exact HFIT.out⟩, ⟨HST.out.below (by (repeat (first | exact Below.refl _ _ | (with_reducible assumption) | refine below_thenB ?_ (by assumption) | refine below_alloc ?_ _ | refine below_drew ?_ | refine pw_below_drewN ?_ _ | refine Below.setCell ?_ (by first | (simp; done) | omega | (simp; omega)) _)))⟩⟩
                case measure => simp [intOf]
              | false =>
                have HFIT := Lib.hid hfit
                clear hfit
                go_wp2_with fail
                (refine wp_region_head 5 (by kernel_rfl) (by kernel_rfl) ?_; simp only [List.take_succ_cons, List.take_zero, List.drop_succ_cons, List.drop_zero]; (iterate 5 (go_big_quiet_step (fail))); with_reducible refine wpQuiet_nil ?_)
                go_wp2_with (go_at_call 119; (with_reducible refine (field_no _ _ p fi fn HF.out _ _ _ _ (Kd.C_below HP.out (by (repeat (first | exact Below.refl _ _ | (with_reducible assumption) | refine below_thenB ?_ (by assumption) | refine below_alloc ?_ _ | refine below_drew ?_ | refine pw_below_drewN ?_ _ | refine Below.setCell ?_ (by first | (simp; done) | omega | (simp; omega)) _)))) HR.out.1 HR.out.2 HFIT.out).mono ?_); rintro e w2 ⟨⟨e2, he2, rfl⟩, hb2⟩)
                exact ⟨rfl, Gives.no (by rw [← HB.out]; have h := HN.out.2.2.1; have h1 : fitB p.length fn.code.length ⟨op, a, b, c, k⟩ 2 = false := (by simp only [fitB, fieldN, h]; exact HFIT.out); simp [instrB, h1]) he2, by (repeat (first | exact Below.refl _ _ | (with_reducible assumption) | refine below_thenB ?_ (by assumption) | refine below_alloc ?_ _ | refine below_drew ?_ | refine pw_below_drewN ?_ _ | refine Below.setCell ?_ (by first | (simp; done) | omega | (simp; omega)) _))⟩
            · have hr : 0 ≤ pk ∧ pk ≤ 6 := by have h := partN_range op 3; rw [HN.out.2.2.2] at h; exact h
              have HR := Lib.hid hr
              clear hr
              have hbe := HST.out.be
              cases hfit : fieldB p.length fn.code.length pk k with
              | true =>
                have HFIT := Lib.hid hfit
                clear hfit
                go_wp2_with fail
                (refine wp_region_head 5 (by kernel_rfl) (by kernel_rfl) ?_; simp only [List.take_succ_cons, List.take_zero, List.drop_succ_cons, List.drop_zero]; (iterate 5 (go_big_quiet_step (fail))); with_reducible refine wpQuiet_nil ?_)
                go_wp2_with (go_at_call 119; (with_reducible refine (field_yes _ _ p fi fn HF.out _ _ _ _ (Kd.C_below HP.out (by (repeat (first | exact Below.refl _ _ | (with_reducible assumption) | refine below_thenB ?_ (by assumption) | refine below_alloc ?_ _ | refine below_drew ?_ | refine pw_below_drewN ?_ _ | refine Below.setCell ?_ (by first | (simp; done) | omega | (simp; omega)) _)))) HR.out.1 HR.out.2 HFIT.out).mono ?_); rintro e w2 ⟨rfl, hb2⟩)
                go_roundw
                case rel => exact ⟨4, by omega, by omega, rfl, ⟨fun j hj => by
                  rcases show (j : Int) < 3 ∨ j = 3 from by omega with h | rfl
                  · exact HI.out j h
                  · have h := HN.out.2.2.2; simp only [fitB, fieldN, h]; exact HFIT.out⟩, ⟨HST.out.below (by (repeat (first | exact Below.refl _ _ | (with_reducible assumption) | refine below_thenB ?_ (by assumption) | refine below_alloc ?_ _ | refine below_drew ?_ | refine pw_below_drewN ?_ _ | refine Below.setCell ?_ (by first | (simp; done) | omega | (simp; omega)) _)))⟩⟩
                case measure => simp [intOf]
              | false =>
                have HFIT := Lib.hid hfit
                clear hfit
                go_wp2_with fail
                (refine wp_region_head 5 (by kernel_rfl) (by kernel_rfl) ?_; simp only [List.take_succ_cons, List.take_zero, List.drop_succ_cons, List.drop_zero]; (iterate 5 (go_big_quiet_step (fail))); with_reducible refine wpQuiet_nil ?_)
                go_wp2_with (go_at_call 119; (with_reducible refine (field_no _ _ p fi fn HF.out _ _ _ _ (Kd.C_below HP.out (by (repeat (first | exact Below.refl _ _ | (with_reducible assumption) | refine below_thenB ?_ (by assumption) | refine below_alloc ?_ _ | refine below_drew ?_ | refine pw_below_drewN ?_ _ | refine Below.setCell ?_ (by first | (simp; done) | omega | (simp; omega)) _)))) HR.out.1 HR.out.2 HFIT.out).mono ?_); rintro e w2 ⟨⟨e2, he2, rfl⟩, hb2⟩)
                exact ⟨rfl, Gives.no (by rw [← HB.out]; have h := HN.out.2.2.2; have h1 : fitB p.length fn.code.length ⟨op, a, b, c, k⟩ 3 = false := (by simp only [fitB, fieldN, h]; exact HFIT.out); simp [instrB, h1]) he2, by (repeat (first | exact Below.refl _ _ | (with_reducible assumption) | refine below_thenB ?_ (by assumption) | refine below_alloc ?_ _ | refine below_drew ?_ | refine pw_below_drewN ?_ _ | refine Below.setCell ?_ (by first | (simp; done) | omega | (simp; omega)) _))⟩
            · have c4 := fun j => blk_cell HST.out.h4 j
              have c3 := fun j => blk_cell HST.out.h3 j
              have hbe := HST.out.be
              by_cases h3 : pc = 3
              · have hc0 : fitB p.length fn.code.length ⟨op, a, b, c, k⟩ 2 = true := HI.out 2 (by omega)
                have hb0 : fitB p.length fn.code.length ⟨op, a, b, c, k⟩ 1 = true := HI.out 1 (by omega)
                have hpb : pb = 1 := shape_fn (by rw [HS.out, h3])
                have h31 : (pc == 3) = true := by simpa using h3
                have e1 := HN.out.2.1
                have e2 := HN.out.2.2.1
                simp only [fitB, fieldN, e1, e2, h3, hpb, fieldB, Int.reduceEq, if_true, if_false, Bool.and_eq_true, decide_eq_true_eq] at hc0 hb0
                clear e1 e2
                obtain ⟨hc1, hc2⟩ := hc0
                obtain ⟨hb1, hb2⟩ := hb0
                have hcl : c.toNat < p.length := by omega
                obtain ⟨fn2, hf2⟩ : ∃ fn2, p[c.toNat]? = some fn2 := ⟨_, List.getElem?_eq_getElem hcl⟩
                obtain ⟨ad, A1, c1, hA, hx0, hx1, hl1, hi1, hlt⟩ := at_fn (Kd.C_below HP.out hbe) c.toNat fn2 hf2
                have HF2 := Lib.hid hf2
                have HPB := Lib.hid hpb
                have H3 := Lib.hid h3
                clear hi1 hl1 hx1 hf2 hpb h3
                subst hA
                by_cases hle : fn2.ar ≤ 8 - b
                · go_wp2_with fail
                  (refine wp_region_head 12 (by kernel_rfl) (by kernel_rfl) ?_; simp only [List.take_succ_cons, List.take_zero, List.drop_succ_cons, List.drop_zero]; (iterate 12 (go_big_quiet_step (fail))); with_reducible refine wpQuiet_nil ?_)
                  go_wp2_with (go_at_call 94; (with_reducible refine (need_yes _ _ _ _ _).mono ?_); rintro e w2 ⟨rfl, rfl⟩)
                  go_end0
                  have e1 : B = true := by
                    rw [← HB.out]
                    have h1 := HS.out
                    have h2 := HF2.out
                    have h4 := HN.out.2.2.1
                    simp [instrB, h1, h2, h4, HU.out 0 (by omega), HU.out 1 (by omega), HU.out 2 (by omega), HU.out 3 (by omega), HI.out 0 (by omega), HI.out 1 (by omega), HI.out 2 (by omega), HI.out 3 (by omega), hle]
                  exact ⟨.inl ⟨e1, rfl⟩, by (repeat (first | exact Below.refl _ _ | (with_reducible assumption) | refine below_thenB ?_ (by assumption) | refine below_alloc ?_ _ | refine below_drew ?_ | refine pw_below_drewN ?_ _ | refine Below.setCell ?_ (by first | (simp; done) | omega | (simp; omega)) _))⟩
                · have hd : decide (fn2.ar ≤ 8 - b) = false := by simpa using hle
                  clear hle
                  go_wp2_with fail
                  (refine wp_region_head 12 (by kernel_rfl) (by kernel_rfl) ?_; simp only [List.take_succ_cons, List.take_zero, List.drop_succ_cons, List.drop_zero]; (iterate 12 (go_big_quiet_step (fail))); with_reducible refine wpQuiet_nil ?_)
                  go_wp2_with (go_at_call 94; (with_reducible refine (need_no _ _ _ _ _).mono ?_); rintro e w2 ⟨rfl, hbn⟩)
                  exact ⟨rfl, Gives.no (by rw [← HB.out]; have h1 := HF2.out; have h2 := HN.out.2.2.1; have h4 := H3.out; simp [instrB, h1, h2, h4, hd]) (by decide), by (repeat (first | exact Below.refl _ _ | (with_reducible assumption) | refine below_thenB ?_ (by assumption) | refine below_alloc ?_ _ | refine below_drew ?_ | refine pw_below_drewN ?_ _ | refine Below.setCell ?_ (by first | (simp; done) | omega | (simp; omega)) _))⟩
              · have h31 : (pc == 3) = false := by simpa using h3
                have H3 := Lib.hid h3
                clear h3
                go_wp2_with fail
                go_end0
                have e1 : B = true := by
                  rw [← HB.out]
                  have h1 := HS.out
                  have h2 := H3.out
                  have h4 := HN.out.2.2.1
                  simp [instrB, h1, h2, h4, HU.out 0 (by omega), HU.out 1 (by omega), HU.out 2 (by omega), HU.out 3 (by omega), HI.out 0 (by omega), HI.out 1 (by omega), HI.out 2 (by omega), HI.out 3 (by omega), h31, bne]
                exact ⟨.inl ⟨e1, rfl⟩, by (repeat (first | exact Below.refl _ _ | (with_reducible assumption) | refine below_thenB ?_ (by assumption) | refine below_alloc ?_ _ | refine below_drew ?_ | refine pw_below_drewN ?_ _ | refine Below.setCell ?_ (by first | (simp; done) | omega | (simp; omega)) _))⟩
end Go.Proofs.Ytimmglnbjgbbjaa
