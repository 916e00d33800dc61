/- Which programs may run (valid.Check): the error is 0 just if the program may. No conditions. -/
import Derived.Test.YtimmglnbjgbbjaaValid2
set_option linter.unusedSimpArgs false
set_option linter.unusedVariables false
namespace Go.Proofs.Ytimmglnbjgbbjaa
open Go.RowKit Go.Proofs.YtimmglnbjgbbjaaW.PrintWords
def lastB (g : Fn) : Bool := let o := (g.code.getLast?.getD zIn).op; o == 9 || o == 16 || o == 17
def codeB (p : List Fn) (g : Fn) (x : In) : Bool := instrB p.length g.code.length ((p[x.c.toNat]?.getD zFn).ar) x
def fnB (p : List Fn) (g : Fn) : Bool := decide (0 ≤ g.ar) && decide (g.ar ≤ 4) && decide (1 ≤ g.code.length) && decide (g.code.length ≤ 64) && g.code.all (codeB p g) && lastB g
/-- May a program run? -/
def progB (p : List Fn) : Bool := decide (1 ≤ p.length) && decide (p.length ≤ 16) && p.all (fnB p)
/-- What Check hands back. -/
def CheckOut (p : List Fn) (w : World) (en : Ending) (w' : World) : Prop := ∃ f at_ e : Int, en = .returned (.tuple #[.int .i64 f, .int .i64 at_, .int .i64 e]) ∧ (e = 0 ↔ progB p = true) ∧ Below w.heap.size w w'
section
variable (b2 b3 b4 : Nat)
set_option maxHeartbeats 400000 in
theorem chk_idle (w : World) : CallsD Try.prog 93 #[.pointer (some ⟨b2, 0, none⟩), .pointer (some ⟨b3, 0, none⟩), .pointer (some ⟨b4, 0, none⟩)] .returning w fun e u' w' => e = .returned (.tuple #[]) ∧ u' = .returning ∧ w' = w := by
  refine callsD_of_wpS Try.func93 rfl fun c₀ cs hu => ?_
  have hrep : (Array.replicate 20 undef : Array Value) = #[undef, undef, undef, undef, undef, undef, undef, undef, undef, undef, undef, undef, undef, undef, undef, undef, undef, undef, undef, undef] := rfl
  apply wpS_seq
  apply wpS_region
  simp [hrep, wpOpsS, go_sem, recoverD, hu, Try.ntmps93, Exit.thenS]
  refine wpS_of_wp ?_
  go_wp2
  cases c₀
  simp_all [bodyPostS, results, Try.results93 ]
set_option maxRecDepth 10000 in
set_option maxHeartbeats 400000 in
theorem chk_panics (f at_ e : Int) (v2 v3 v4 : Value) (w : World) (h2 : w.heap[b2]? = some (.cells #[v2] 3 (0, 0))) (h3 : w.heap[b3]? = some (.cells #[v3] 3 (0, 0))) (h4 : w.heap[b4]? = some (.cells #[v4] 30 (0, 0))) (h23 : b2 ≠ b3) :
    CallsD Try.prog 93 #[.pointer (some ⟨b2, 0, none⟩), .pointer (some ⟨b3, 0, none⟩), .pointer (some ⟨b4, 0, none⟩)] (.panicking (wrongC f at_ e)) w fun en u' w' =>
      en = .returned (.tuple #[]) ∧ u' = .panicking [{ v := .iface 199 (.agg #[.int .i64 f, .int .i64 at_, .int .i64 e]), recovered := true }] ∧
        w'.heap[b2]? = some (.cells #[.int .i64 f] 3 (0, 0)) ∧ w'.heap[b3]? = some (.cells #[.int .i64 at_] 3 (0, 0)) ∧ w'.heap[b4]? = some (.cells #[.int .i64 e] 30 (0, 0)) ∧ Keep (fun k => k = b2 ∨ k = b3 ∨ k = b4) w w' := by
  have c2 := cell_of_one h2
  have c3 := cell_of_one h3
  have c4 := cell_of_one h4
  have f2 := free_of_one h2
  have f3 := free_of_one h3
  have f4 := free_of_one h4
  have l2 := lt_of_block h2
  have l3 := lt_of_block h3
  have l4 := lt_of_block h4
  have h24 : b2 ≠ b4 := blk_ne h2 h4 (by decide)
  have h34 : b3 ≠ b4 := blk_ne h3 h4 (by decide)
  have h32 := Ne.symm h23
  have h42 := Ne.symm h24
  have h43 := Ne.symm h34
  have hta : ∀ w, (Instr.typeAssert (.iface 199 (.agg #[.int .i64 f, .int .i64 at_, .int .i64 e])) 20 199 true).run Try.prog w = .ok (.tuple #[.agg #[.int .i64 f, .int .i64 at_, .int .i64 e], .bool true]) w := fun _ => by kernel_rfl
  refine callsD_of_wpS Try.func93 rfl fun c₀ cs hu => ?_
  have hrep : (Array.replicate 20 undef : Array Value) = #[undef, undef, undef, undef, undef, undef, undef, undef, undef, undef, undef, undef, undef, undef, undef, undef, undef, undef, undef, undef] := rfl
  apply wpS_seq
  apply wpS_region
  simp [hrep, wpOpsS, go_sem, recoverD, hu, wrongC, Try.ntmps93, Exit.thenS]
  refine wpS_of_wp ?_
  go_wp2
  have n2 : ¬ w.heap.size = b2 := by omega
  have n3 : ¬ w.heap.size = b3 := by omega
  have n4 : ¬ w.heap.size = b4 := by omega
  refine plan_noPanic ?_
  refine plan_begin (fun k => k = b2 ∨ k = b3 ∨ k = b4) 8 9 rfl (by kernel_rfl) (fun hSk => ?_)
  (refine plan_q 0 rfl (by kernel_rfl) (by kernel_rfl) (by kernel_rfl) rfl rfl (fun _ _ _ _ h => h) hSk (by decide) (by kernel_rfl) (fun K hK => ?_); go_big_quiet_op; with_reducible refine hK _ ?_; clear hK K)
  (refine plan_q 1 rfl (by kernel_rfl) (by kernel_rfl) (by kernel_rfl) rfl rfl (fun _ _ _ _ h => h) hSk (by decide) (by kernel_rfl) (fun K hK => ?_); go_big_quiet_op; with_reducible refine hK _ ?_; clear hK K)
  (refine plan_q 2 rfl (by kernel_rfl) (by kernel_rfl) (by kernel_rfl) rfl rfl (fun _ _ _ _ h => h) hSk (by decide) (by kernel_rfl) (fun K hK => ?_); go_big_quiet_op; with_reducible refine hK _ ?_; clear hK K)
  (refine plan_q 3 rfl (by kernel_rfl) (by kernel_rfl) (by kernel_rfl) rfl rfl (fun _ _ _ _ h => h) hSk (by decide) (by kernel_rfl) (fun K hK => ?_); go_big_quiet_op; with_reducible refine hK _ ?_; clear hK K)
  (refine plan_q 4 rfl (by kernel_rfl) (by kernel_rfl) (by kernel_rfl) rfl rfl (fun _ _ _ _ h => h) hSk (by decide) (by kernel_rfl) (fun K hK => ?_); go_big_quiet_op; with_reducible refine hK _ ?_; clear hK K)
  (refine plan_q 5 rfl (by kernel_rfl) (by kernel_rfl) (by kernel_rfl) rfl rfl (fun _ _ _ _ h => h) hSk (by decide) (by kernel_rfl) (fun K hK => ?_); go_big_quiet_op; with_reducible refine hK _ ?_; clear hK K)
  (refine plan_l 6 rfl (by kernel_rfl) (fun K hK => ?_); go_wp2_with (fail); (try simp only [Exit.then]); (try simp only [Act.put, List.setIfInBounds_toArray, List.set_cons_succ, List.set_cons_zero]); refine hK _ _ (fun hz0 => by clear hz0 hSk; (repeat (first | with_reducible exact Keep.refl _ _ | (with_reducible refine Keep.left ?_) | (with_reducible refine Keep.leftN ?_) | (with_reducible assumption) | (with_reducible refine Keep.setCell ?_ ?hs _; case hs => (first | (exact .inl rfl) | (simp; done) | (right; omega) | (right; simp; omega))) | (with_reducible refine Keep.allocs ?_ (by simp; done) _) | (with_reducible refine Keep.alloc ?_ _) | (with_reducible refine Keep.drew ?_) | (with_reducible refine Keep.drewN ?_ _) | refine Keep.thenBelow ?_ (by assumption) | refine Keep.grown ?_ (by assumption) (by intro k hk; (first | (cases hk; done) | (exfalso; simp [Value.ownBlock] at hk; done) | (simp [Value.ownBlock] at hk; subst hk; (first | (right; simp; omega) | (left; first | rfl | simp)))) ) | refine Keep.trans ?_ (by assumption) | (with_reducible refine Keep.allocs ?_ (by simp; done) _) | refine Keep.alloc ?_ _ | refine Keep.drew ?_ | refine Keep.drewN ?_ _ | refine Keep.setCell ?_ (by first | (exact .inl rfl) | (simp; done) | (right; omega) | (right; simp; omega)) _))) (fun hSk1 => ?_); clear hK K hSk; replace hSk1 := hSk1 (by decide); have hSk := hSk1; clear hSk1)
  (refine plan_l 7 rfl (by kernel_rfl) (fun K hK => ?_); go_wp2_with (fail); (try simp only [Exit.then]); (try simp only [Act.put, List.setIfInBounds_toArray, List.set_cons_succ, List.set_cons_zero]); refine hK _ _ (fun hz0 => by clear hz0 hSk; (repeat (first | with_reducible exact Keep.refl _ _ | (with_reducible refine Keep.left ?_) | (with_reducible refine Keep.leftN ?_) | (with_reducible assumption) | (with_reducible refine Keep.setCell ?_ ?hs _; case hs => (first | (exact .inl rfl) | (simp; done) | (right; omega) | (right; simp; omega))) | (with_reducible refine Keep.allocs ?_ (by simp; done) _) | (with_reducible refine Keep.alloc ?_ _) | (with_reducible refine Keep.drew ?_) | (with_reducible refine Keep.drewN ?_ _) | refine Keep.thenBelow ?_ (by assumption) | refine Keep.grown ?_ (by assumption) (by intro k hk; (first | (cases hk; done) | (exfalso; simp [Value.ownBlock] at hk; done) | (simp [Value.ownBlock] at hk; subst hk; (first | (right; simp; omega) | (left; first | rfl | simp)))) ) | refine Keep.trans ?_ (by assumption) | (with_reducible refine Keep.allocs ?_ (by simp; done) _) | refine Keep.alloc ?_ _ | refine Keep.drew ?_ | refine Keep.drewN ?_ _ | refine Keep.setCell ?_ (by first | (exact .inl rfl) | (simp; done) | (right; omega) | (right; simp; omega)) _))) (fun hSk1 => ?_); clear hK K hSk; replace hSk1 := hSk1 (by decide); have hSk := hSk1; clear hSk1)
  (refine plan_l 8 rfl (by kernel_rfl) (fun K hK => ?_); go_wp2_with (fail); (try simp only [Exit.then]); (try simp only [Act.put, List.setIfInBounds_toArray, List.set_cons_succ, List.set_cons_zero]); refine hK _ _ (fun hz0 => by exact absurd rfl hz0) (fun hSk1 => ?_); clear hK K hSk)
  refine plan_e (by kernel_rfl) ?_
  clear hSk1
  refine noPanic_normal ?_
  rename_i Q'
  simp only [Q']
  clear Q'
  clear hta hrep n2 n3 n4 c2 c3 c4 f2 f3 f4
  cases c₀
  simp only at hu
  subst hu
  refine ⟨rfl, _, rfl, .tuple #[], by simp [results, Try.results93 ], rfl, rfl, ?_, ?_, ?_, ?_⟩
  · refine heap_drew1 (heap_lt_alloc (heap_far (heap_far (heap_near h2 rfl) h23) h24))
  · refine heap_drew1 (heap_lt_alloc (heap_far (heap_near (heap_far h3 h32) rfl) h34))
  · refine heap_drew1 (heap_lt_alloc (heap_near (heap_far (heap_far h4 h42) h43) rfl))
  · (repeat (first | with_reducible exact Keep.refl _ _ | (with_reducible refine Keep.left ?_) | (with_reducible refine Keep.leftN ?_) | (with_reducible assumption) | (with_reducible refine Keep.setCell ?_ ?hs _; case hs => (first | (exact .inl rfl) | (simp; done) | (right; omega) | (right; simp; omega))) | (with_reducible refine Keep.allocs ?_ (by simp; done) _) | (with_reducible refine Keep.alloc ?_ _) | (with_reducible refine Keep.drew ?_) | (with_reducible refine Keep.drewN ?_ _) | refine Keep.thenBelow ?_ (by assumption) | refine Keep.grown ?_ (by assumption) (by intro k hk; (first | (cases hk; done) | (exfalso; simp [Value.ownBlock] at hk; done) | (simp [Value.ownBlock] at hk; subst hk; (first | (right; simp; omega) | (left; first | rfl | simp)))) ) | refine Keep.trans ?_ (by assumption) | (with_reducible refine Keep.allocs ?_ (by simp; done) _) | refine Keep.alloc ?_ _ | refine Keep.drew ?_ | refine Keep.drewN ?_ _ | refine Keep.setCell ?_ (by first | (exact .inl rfl) | (simp; done) | (right; omega) | (right; simp; omega)) _))
end
/-- The three results' cells, and what was there before. -/
structure ChkSt (w wx : World) : Prop where
  hb : Below w.heap.size w wx
  h2 : wx.heap[w.heap.size]? = some (.cells #[.int .i64 0] 3 (0, 0))
  h3 : wx.heap[w.heap.size + 1]? = some (.cells #[.int .i64 0] 3 (0, 0))
  h4 : wx.heap[w.heap.size + 1 + 1]? = some (.cells #[.int .i64 0] 30 (0, 0))
theorem ChkSt.step {w wx wy : World} (h : ChkSt w wx) (hb : Below wx.heap.size wx wy) : ChkSt w wy :=
  ⟨below_then h.hb h.hb.size hb, blk_below h.h2 hb, blk_below h.h3 hb, blk_below h.h4 hb⟩
theorem door_panics (p : List Fn) (w W : World) (S : ChkSt w W) (f at_ e : Int) (he : e ≠ 0) (hP : progB p = false) (tmps : Array Value)
    (t2 : tmps[2]? = some (.pointer (some ⟨w.heap.size, 0, none⟩))) (t3 : tmps[3]? = some (.pointer (some ⟨w.heap.size + 1, 0, none⟩))) (t4 : tmps[4]? = some (.pointer (some ⟨w.heap.size + 1 + 1, 0, none⟩))) :
    Leaves Try.prog Try.f70 tmps (CheckOut p w) [{ target := .fn (.func 93) #[.pointer (some ⟨w.heap.size, 0, none⟩), .pointer (some ⟨w.heap.size + 1, 0, none⟩), .pointer (some ⟨w.heap.size + 1 + 1, 0, none⟩)], args := #[] }] (.panicking (wrongC f at_ e)) W := by
  refine leaves_cons (f := 93) (args := #[.pointer (some ⟨w.heap.size, 0, none⟩), .pointer (some ⟨w.heap.size + 1, 0, none⟩), .pointer (some ⟨w.heap.size + 1 + 1, 0, none⟩)]) (by simp) (by simp [go_sem]) ?_
  refine (chk_panics w.heap.size (w.heap.size + 1) (w.heap.size + 1 + 1) f at_ e _ _ _ W S.h2 S.h3 S.h4 (by omega)).mono ?_
  rintro en u' w' ⟨rfl, rfl, q2, q3, q4, hk⟩
  have c2 := cell_of_one q2
  have c3 := cell_of_one q3
  have c4 := cell_of_one q4
  have hb : Below w.heap.size w w' := Keep.below (Keep.then_ (Keep.of_below (fun _ => False) S.hb) hk (fun k hk => by rcases hk with rfl | rfl | rfl <;> right <;> omega))
  simp [Leaves, settle, results, Try.results70 , go_sem, t2, t3, t4, c2, c3, c4]
  exact ⟨f, at_, e, rfl, by simp [he, hP], hb⟩
theorem door_returns (p : List Fn) (w W : World) (S : ChkSt w W) (hP : progB p = true) (tmps : Array Value)
    (t2 : tmps[2]? = some (.pointer (some ⟨w.heap.size, 0, none⟩))) (t3 : tmps[3]? = some (.pointer (some ⟨w.heap.size + 1, 0, none⟩))) (t4 : tmps[4]? = some (.pointer (some ⟨w.heap.size + 1 + 1, 0, none⟩))) :
    Leaves Try.prog Try.f70 tmps (CheckOut p w) [{ target := .fn (.func 93) #[.pointer (some ⟨w.heap.size, 0, none⟩), .pointer (some ⟨w.heap.size + 1, 0, none⟩), .pointer (some ⟨w.heap.size + 1 + 1, 0, none⟩)], args := #[] }] .returning W := by
  refine leaves_cons (f := 93) (args := #[.pointer (some ⟨w.heap.size, 0, none⟩), .pointer (some ⟨w.heap.size + 1, 0, none⟩), .pointer (some ⟨w.heap.size + 1 + 1, 0, none⟩)]) (by simp) (by simp [go_sem]) ?_
  refine (chk_idle w.heap.size (w.heap.size + 1) (w.heap.size + 1 + 1) W).mono ?_
  rintro en u' w' ⟨rfl, rfl, rfl⟩
  have c2 := cell_of_one S.h2
  have c3 := cell_of_one S.h3
  have c4 := cell_of_one S.h4
  simp [Leaves, settle, results, Try.results70 , go_sem, t2, t3, t4, c2, c3, c4]
  exact ⟨0, 0, 0, rfl, by simp [hP], S.hb⟩
theorem prog_false {p : List Fn} {i : Nat} {fn : Fn} (hf : p[i]? = some fn) (h : fnB p fn = false) : progB p = false := by
  unfold progB
  have : p.all (fnB p) = false := by
    rw [List.all_eq_false]
    exact ⟨fn, List.mem_of_getElem? hf, by simp [h]⟩
  simp [this]
theorem instr_yes (A : Option Addr) (cp : Nat) (p : List Fn) (fi : Nat) (fn : Fn) (hf : p[fi]? = some fn) (x : In) (at_ : Int) (w : World) (hp : Kd.C (kFn 34) w A p.length p) (hB : codeB p fn x = true) :
    Calls Try.prog 95 #[.agg #[.slice A p.length cp, .int .i64 fi, .int .i64 at_], .agg #[.int .i64 x.op, .int .i64 x.a, .int .i64 x.b, .int .i64 x.c, .int .i64 x.k]] w fun en w' => en = .returned (.tuple #[]) ∧ Below w.heap.size w w' := by
  refine (instr_any A cp p fi fn hf x at_ w hp true hB).mono ?_
  rintro en w' ⟨hg, hb⟩
  rcases hg with ⟨_, rfl⟩ | ⟨h, _⟩
  · exact ⟨rfl, hb⟩
  · cases h
theorem instr_no (A : Option Addr) (cp : Nat) (p : List Fn) (fi : Nat) (fn : Fn) (hf : p[fi]? = some fn) (x : In) (at_ : Int) (w : World) (hp : Kd.C (kFn 34) w A p.length p) (hB : codeB p fn x = false) :
    Calls Try.prog 95 #[.agg #[.slice A p.length cp, .int .i64 fi, .int .i64 at_], .agg #[.int .i64 x.op, .int .i64 x.a, .int .i64 x.b, .int .i64 x.c, .int .i64 x.k]] w fun en w' => (∃ at_ e, e ≠ 0 ∧ en = .panicked (wrongC fi at_ e)) ∧ Below w.heap.size w w' := by
  refine (instr_any A cp p fi fn hf x at_ w hp false hB).mono ?_
  rintro en w' ⟨hg, hb⟩
  rcases hg with ⟨h, _⟩ | ⟨_, h⟩
  · cases h
  · exact ⟨h, hb⟩
set_option maxHeartbeats 400000 in
theorem check_any (A : Option Addr) (cp : Nat) (p : List Fn) (w : World) (hp : Kd.C (kFn 34) w A p.length p) :
    Calls Try.prog 70 #[.slice A p.length cp] w (CheckOut p w) := by
  have hmf : ∀ (fn : Go.Fn) (first cap : Array Value) (w : World), (Instr.makeFunc fn first cap).run Try.prog w = .ok (.func fn first cap) w := fun _ _ _ _ => rfl
  by_cases hl : 1 ≤ p.length ∧ p.length ≤ 16
  rotate_left
  · have hP : progB p = false := by
      unfold progB
      rcases Nat.lt_or_ge p.length 1 with h | h
      · simp [show ¬ 1 ≤ p.length by omega]
      · simp [show ¬ p.length ≤ 16 by omega]
    rcases Nat.lt_or_ge p.length 1 with h | h
    · have d1 : decide ((1 : Int) ≤ (p.length : Int)) = false := by simp; omega
      go_enter_defers Try.func70, Try.ntmps70
      go_wp2_with (go_at_call 94; (with_reducible refine (need_no _ _ _ _ _).mono ?_); rintro e w1 ⟨rfl, hb⟩)
      refine door_panics p w w1 ⟨by (repeat (first | exact Below.refl _ _ | (with_reducible assumption) | refine below_thenB ?_ (by assumption) | refine below_alloc ?_ _ | refine below_drew ?_ | refine pw_below_drewN ?_ _ | refine Below.setCell ?_ (by first | (simp; done) | omega | (simp; omega)) _)), blk_below (by (repeat (first | (with_reducible assumption) | (with_reducible refine heap_drew1 ?_) | (with_reducible refine heap_drewN1 ?_) | exact heap_at_alloc (by first | rfl | (simp; done) | (simp; omega)) | (with_reducible refine heap_lt_alloc ?_) | (refine heap_near ?_ (by first | rfl | (simp; done))) | (refine heap_far ?_ (by first | (simp; done) | (simp; omega))) | exact blk_below (by assumption) (by assumption)))) hb, blk_below (by (repeat (first | (with_reducible assumption) | (with_reducible refine heap_drew1 ?_) | (with_reducible refine heap_drewN1 ?_) | exact heap_at_alloc (by first | rfl | (simp; done) | (simp; omega)) | (with_reducible refine heap_lt_alloc ?_) | (refine heap_near ?_ (by first | rfl | (simp; done))) | (refine heap_far ?_ (by first | (simp; done) | (simp; omega))) | exact blk_below (by assumption) (by assumption)))) hb, blk_below (by (repeat (first | (with_reducible assumption) | (with_reducible refine heap_drew1 ?_) | (with_reducible refine heap_drewN1 ?_) | exact heap_at_alloc (by first | rfl | (simp; done) | (simp; omega)) | (with_reducible refine heap_lt_alloc ?_) | (refine heap_near ?_ (by first | rfl | (simp; done))) | (refine heap_far ?_ (by first | (simp; done) | (simp; omega))) | exact blk_below (by assumption) (by assumption)))) hb⟩ 0 0 3 (by decide) hP _ rfl rfl rfl
    · have d1 : decide ((1 : Int) ≤ (p.length : Int)) = true := by simp; omega
      have d2 : decide ((p.length : Int) ≤ 16) = false := by simp; omega
      go_enter_defers Try.func70, Try.ntmps70
      go_wp2_with (go_at_call 94; (with_reducible refine (need_no _ _ _ _ _).mono ?_); rintro e w1 ⟨rfl, hb⟩)
      refine door_panics p w w1 ⟨by (repeat (first | exact Below.refl _ _ | (with_reducible assumption) | refine below_thenB ?_ (by assumption) | refine below_alloc ?_ _ | refine below_drew ?_ | refine pw_below_drewN ?_ _ | refine Below.setCell ?_ (by first | (simp; done) | omega | (simp; omega)) _)), blk_below (by (repeat (first | (with_reducible assumption) | (with_reducible refine heap_drew1 ?_) | (with_reducible refine heap_drewN1 ?_) | exact heap_at_alloc (by first | rfl | (simp; done) | (simp; omega)) | (with_reducible refine heap_lt_alloc ?_) | (refine heap_near ?_ (by first | rfl | (simp; done))) | (refine heap_far ?_ (by first | (simp; done) | (simp; omega))) | exact blk_below (by assumption) (by assumption)))) hb, blk_below (by (repeat (first | (with_reducible assumption) | (with_reducible refine heap_drew1 ?_) | (with_reducible refine heap_drewN1 ?_) | exact heap_at_alloc (by first | rfl | (simp; done) | (simp; omega)) | (with_reducible refine heap_lt_alloc ?_) | (refine heap_near ?_ (by first | rfl | (simp; done))) | (refine heap_far ?_ (by first | (simp; done) | (simp; omega))) | exact blk_below (by assumption) (by assumption)))) hb, blk_below (by (repeat (first | (with_reducible assumption) | (with_reducible refine heap_drew1 ?_) | (with_reducible refine heap_drewN1 ?_) | exact heap_at_alloc (by first | rfl | (simp; done) | (simp; omega)) | (with_reducible refine heap_lt_alloc ?_) | (refine heap_near ?_ (by first | rfl | (simp; done))) | (refine heap_far ?_ (by first | (simp; done) | (simp; omega))) | exact blk_below (by assumption) (by assumption)))) hb⟩ 0 0 3 (by decide) hP _ rfl rfl rfl
  have d1 : decide ((1 : Int) ≤ (p.length : Int)) = true := by simp; omega
  have d2 : decide ((p.length : Int) ≤ 16) = true := by simp; omega
  go_enter_defers Try.func70, Try.ntmps70
  go_wp2_with (go_at_call 94; (with_reducible refine (need_yes _ _ _ _ _).mono ?_); rintro e w1 ⟨rfl, rfl⟩)
  go_loopw [24] (fun s24 wx => ∃ i : Nat, i ≤ p.length ∧ s24 = .int .i64 i ∧ (∀ k, k < i → fnB p (p.getD k zFn) = true) ∧ ChkSt w wx) (fun s _ => (p.length - intOf s).toNat)
  case atStart => exact ⟨0, Nat.zero_le _, rfl, fun k hk => absurd hk (Nat.not_lt_zero _), ⟨by (repeat (first | exact Below.refl _ _ | (with_reducible assumption) | refine below_thenB ?_ (by assumption) | refine below_alloc ?_ _ | refine below_drew ?_ | refine pw_below_drewN ?_ _ | refine Below.setCell ?_ (by first | (simp; done) | omega | (simp; omega)) _)), by (repeat (first | (with_reducible assumption) | (with_reducible refine heap_drew1 ?_) | (with_reducible refine heap_drewN1 ?_) | exact heap_at_alloc (by first | rfl | (simp; done) | (simp; omega)) | (with_reducible refine heap_lt_alloc ?_) | (refine heap_near ?_ (by first | rfl | (simp; done))) | (refine heap_far ?_ (by first | (simp; done) | (simp; omega))) | exact blk_below (by assumption) (by assumption))), by (repeat (first | (with_reducible assumption) | (with_reducible refine heap_drew1 ?_) | (with_reducible refine heap_drewN1 ?_) | exact heap_at_alloc (by first | rfl | (simp; done) | (simp; omega)) | (with_reducible refine heap_lt_alloc ?_) | (refine heap_near ?_ (by first | rfl | (simp; done))) | (refine heap_far ?_ (by first | (simp; done) | (simp; omega))) | exact blk_below (by assumption) (by assumption))), by (repeat (first | (with_reducible assumption) | (with_reducible refine heap_drew1 ?_) | (with_reducible refine heap_drewN1 ?_) | exact heap_at_alloc (by first | rfl | (simp; done) | (simp; omega)) | (with_reducible refine heap_lt_alloc ?_) | (refine heap_near ?_ (by first | rfl | (simp; done))) | (refine heap_far ?_ (by first | (simp; done) | (simp; omega))) | exact blk_below (by assumption) (by assumption)))⟩⟩
  case round =>
    obtain ⟨i, hi, rfl, hall, S⟩ := hrel
    rcases Nat.lt_or_ge i p.length with hil | hil
    · obtain ⟨fn, hf⟩ : ∃ fn, p[i]? = some fn := ⟨_, List.getElem?_eq_getElem hil⟩
      have di : decide ((i : Int) < (p.length : Int)) = true := by simp; omega
      obtain ⟨ad, A1, c1, rfl, hx0, hx1, hl1, hi1, hlt⟩ := at_fn (Kd.C_below hp S.hb) i fn hf
      have HS := Aside0.mk S
      have HA := Aside0.mk hall
      have HI := Aside0.mk hi1
      have HF := Aside0.mk hf
      have HP := Aside0.mk hp
      clear S hall hi1 hf hp
      go_upto_region 7 with (fail)
      rcases Int.lt_or_le fn.ar 0 with a0 | a0
      · have d3 : decide (0 ≤ fn.ar) = false := by simp; omega
        go_wp2_with (first | (go_at_call 94; (first | ((with_reducible refine (need_yes _ _ _ _ _).mono ?_); rintro e w1 ⟨rfl, rfl⟩) | ((with_reducible refine (need_no _ _ _ _ _).mono ?_); rintro e w1 ⟨rfl, hb⟩))))
        exact door_panics p w w1 (HS.out.step (by (repeat (first | exact Below.refl _ _ | (with_reducible assumption) | refine below_thenB ?_ (by assumption) | refine below_alloc ?_ _ | refine below_drew ?_ | refine pw_below_drewN ?_ _ | refine Below.setCell ?_ (by first | (simp; done) | omega | (simp; omega)) _)))) _ _ _ (by decide) (prog_false HF.out (by simp [fnB, show ¬ 0 ≤ fn.ar by omega])) _ rfl rfl rfl
      have d3 : decide (0 ≤ fn.ar) = true := by simp; omega
      rcases Int.lt_or_le 4 fn.ar with a1 | a1
      · have d4 : decide (fn.ar ≤ 4) = false := by simp; omega
        go_wp2_with (first | (go_at_call 94; (first | ((with_reducible refine (need_yes _ _ _ _ _).mono ?_); rintro e w1 ⟨rfl, rfl⟩) | ((with_reducible refine (need_no _ _ _ _ _).mono ?_); rintro e w1 ⟨rfl, hb⟩))))
        exact door_panics p w w1 (HS.out.step (by (repeat (first | exact Below.refl _ _ | (with_reducible assumption) | refine below_thenB ?_ (by assumption) | refine below_alloc ?_ _ | refine below_drew ?_ | refine pw_below_drewN ?_ _ | refine Below.setCell ?_ (by first | (simp; done) | omega | (simp; omega)) _)))) _ _ _ (by decide) (prog_false HF.out (by simp [fnB, show ¬ fn.ar ≤ 4 by omega])) _ rfl rfl rfl
      have d4 : decide (fn.ar ≤ 4) = true := by simp; omega
      rcases Nat.lt_or_ge fn.code.length 1 with b0 | b0
      · have d5 : decide ((1 : Int) ≤ (fn.code.length : Int)) = false := by simp; omega
        go_wp2_with (first | (go_at_call 94; (first | ((with_reducible refine (need_yes _ _ _ _ _).mono ?_); rintro e w1 ⟨rfl, rfl⟩) | ((with_reducible refine (need_no _ _ _ _ _).mono ?_); rintro e w1 ⟨rfl, hb⟩))))
        exact door_panics p w w1 (HS.out.step (by (repeat (first | exact Below.refl _ _ | (with_reducible assumption) | refine below_thenB ?_ (by assumption) | refine below_alloc ?_ _ | refine below_drew ?_ | refine pw_below_drewN ?_ _ | refine Below.setCell ?_ (by first | (simp; done) | omega | (simp; omega)) _)))) _ _ _ (by decide) (prog_false HF.out (by simp [fnB, show ¬ 1 ≤ fn.code.length by omega])) _ rfl rfl rfl
      have d5 : decide ((1 : Int) ≤ (fn.code.length : Int)) = true := by simp; omega
      rcases Nat.lt_or_ge 64 fn.code.length with b1 | b1
      · have d6 : decide ((fn.code.length : Int) ≤ 64) = false := by simp; omega
        go_wp2_with (first | (go_at_call 94; (first | ((with_reducible refine (need_yes _ _ _ _ _).mono ?_); rintro e w1 ⟨rfl, rfl⟩) | ((with_reducible refine (need_no _ _ _ _ _).mono ?_); rintro e w1 ⟨rfl, hb⟩))))
        exact door_panics p w w1 (HS.out.step (by (repeat (first | exact Below.refl _ _ | (with_reducible assumption) | refine below_thenB ?_ (by assumption) | refine below_alloc ?_ _ | refine below_drew ?_ | refine pw_below_drewN ?_ _ | refine Below.setCell ?_ (by first | (simp; done) | omega | (simp; omega)) _)))) _ _ _ (by decide) (prog_false HF.out (by simp [fnB, show ¬ fn.code.length ≤ 64 by omega])) _ rfl rfl rfl
      have d6 : decide ((fn.code.length : Int) ≤ 64) = true := by simp; omega
      go_wp2_with (go_at_call 94; (with_reducible refine (need_yes _ _ _ _ _).mono ?_); rintro e w1 ⟨rfl, rfl⟩)
      obtain ⟨wf, hwf⟩ : ∃ x, x = wr := ⟨wr, rfl⟩
      subst hwf
      have hsz : w.heap.size ≤ wf.heap.size := HS.out.hb.size
      have hwb : Below w.heap.size w wf := HS.out.hb
      go_loopw [57] (fun s wy => ∃ j : Nat, j ≤ fn.code.length ∧ s = .int .i64 j ∧ Aside0 (∀ k, k < j → codeB p fn (fn.code.getD k zIn) = true) ∧ Below wf.heap.size wf wy ∧ wf.heap.size + 1 < wy.heap.size ∧ Aside0 (wy.heap[wf.heap.size]? = some (.cells #[.int .i64 fn.ar, .slice A1 fn.code.length c1] 34 (0, 0))) ∧ ∃ at0 : Int, Aside0 (wy.heap[wf.heap.size + 1]? = some (.cells #[.slice (some ad) p.length cp, .int .i64 i, .int .i64 at0] 202 (0, 0)))) (fun s _ => (fn.code.length - intOf s).toNat)
      case atStart => exact ⟨0, Nat.zero_le _, rfl, ⟨fun k hk => absurd hk (Nat.not_lt_zero _)⟩, by (repeat (first | exact Below.refl _ _ | (with_reducible assumption) | refine below_thenB ?_ (by assumption) | refine below_alloc ?_ _ | refine below_drew ?_ | refine pw_below_drewN ?_ _ | refine Below.setCell ?_ (by first | (simp; done) | omega | (simp; omega)) _)), by simp, ⟨by (repeat (first | (with_reducible assumption) | (with_reducible refine heap_drew1 ?_) | (with_reducible refine heap_drewN1 ?_) | exact heap_at_alloc (by first | rfl | (simp; done) | (simp; omega)) | (with_reducible refine heap_lt_alloc ?_) | (refine heap_near ?_ (by first | rfl | (simp; done))) | (refine heap_far ?_ (by first | (simp; done) | (simp; omega))) | exact blk_below (by assumption) (by assumption)))⟩, 0, ⟨by (repeat (first | (with_reducible assumption) | (with_reducible refine heap_drew1 ?_) | (with_reducible refine heap_drewN1 ?_) | exact heap_at_alloc (by first | rfl | (simp; done) | (simp; omega)) | (with_reducible refine heap_lt_alloc ?_) | (refine heap_near ?_ (by first | rfl | (simp; done))) | (refine heap_far ?_ (by first | (simp; done) | (simp; omega))) | exact blk_below (by assumption) (by assumption)))⟩⟩
      case round =>
        obtain ⟨j, hj, rfl, HK, hby, hsy, HF1, at0, HG1⟩ := hrel
        have hyb : Below w.heap.size w wr := below_then hwb hsz hby
        have cF := fun j => blk_cell HF1.out j
        have cG := fun j => blk_cell HG1.out j
        rcases Nat.lt_or_ge j fn.code.length with hjl | hjl
        · have dj : decide ((j : Int) < (fn.code.length : Int)) = true := by simp; omega
          obtain ⟨x, hx⟩ : ∃ x, fn.code[j]? = some x := ⟨_, List.getElem?_eq_getElem hjl⟩
          obtain ⟨ad1, hA1, y0, y1, y2, y3, y4, ylt⟩ := at_in (Kd.C_below HI.out hby) j x hx
          have zG : wr.frozen? ⟨wf.heap.size + 1, 2, none⟩ = false := by simp [World.frozen?, HG1.out]
          subst hA1
          cases hB : codeB p fn x
          · have hPn : progB p = false := prog_false HF.out (by
              have : fn.code.all (codeB p fn) = false := by rw [List.all_eq_false]; exact ⟨x, List.mem_of_getElem? hx, by simp [hB]⟩
              simp [fnB, this])
            go_wp2_with (go_at_call 95; (with_reducible refine (instr_no _ _ p i fn HF.out x _ _ (Kd.C_below HP.out (by (repeat (first | exact Below.refl _ _ | (with_reducible assumption) | refine below_thenB ?_ (by assumption) | refine below_alloc ?_ _ | refine below_drew ?_ | refine pw_below_drewN ?_ _ | refine Below.setCell ?_ (by first | (simp; done) | omega | (simp; omega)) _)))) hB).mono ?_); rintro e w2 ⟨⟨at2, e2, he2, rfl⟩, hb⟩)
            exact door_panics p w w2 (HS.out.step (by (repeat (first | exact Below.refl _ _ | (with_reducible assumption) | refine below_thenB ?_ (by assumption) | refine below_alloc ?_ _ | refine below_drew ?_ | refine pw_below_drewN ?_ _ | refine Below.setCell ?_ (by first | (simp; done) | omega | (simp; omega)) _)))) _ _ _ he2 hPn _ rfl rfl rfl
          · have hKn : ∀ k, k < j + 1 → codeB p fn (fn.code.getD k zIn) = true := fun k hk => by
              rcases Nat.lt_or_ge k j with h | h
              · exact HK.out k h
              · obtain rfl : k = j := by omega
                rw [List.getD_eq_getElem?_getD, hx]; exact hB
            have HKN := Aside0.mk hKn
            clear hKn HK
            go_wp2_with (go_at_call 95; (with_reducible refine (instr_yes _ _ p i fn HF.out x _ _ (Kd.C_below HP.out (by (repeat (first | exact Below.refl _ _ | (with_reducible assumption) | refine below_thenB ?_ (by assumption) | refine below_alloc ?_ _ | refine below_drew ?_ | refine pw_below_drewN ?_ _ | refine Below.setCell ?_ (by first | (simp; done) | omega | (simp; omega)) _)))) hB).mono ?_); rintro e w2 ⟨rfl, hb⟩)
            go_roundw
            case rel => exact ⟨j + 1, by omega, by simp, HKN, by (repeat (first | exact Below.refl _ _ | (with_reducible assumption) | refine below_thenB ?_ (by assumption) | refine below_alloc ?_ _ | refine below_drew ?_ | refine pw_below_drewN ?_ _ | refine Below.setCell ?_ (by first | (simp; done) | omega | (simp; omega)) _)), by have := hb.size; simp at this; omega, ⟨blk_below (by have q := HF1.out; (repeat (first | (with_reducible assumption) | (with_reducible refine heap_drew1 ?_) | (with_reducible refine heap_drewN1 ?_) | exact heap_at_alloc (by first | rfl | (simp; done) | (simp; omega)) | (with_reducible refine heap_lt_alloc ?_) | (refine heap_near ?_ (by first | rfl | (simp; done))) | (refine heap_far ?_ (by first | (simp; done) | (simp; omega))) | exact blk_below (by assumption) (by assumption)))) hb⟩, j, ⟨blk_below (heap_lt_alloc (heap_near HG1.out rfl)) hb⟩⟩
            case measure => simp [intOf]; omega
        · have dj : decide ((j : Int) < (fn.code.length : Int)) = false := by simp; omega
          obtain rfl : j = fn.code.length := by omega
          obtain ⟨x, hx⟩ : ∃ x, fn.code[fn.code.length - 1]? = some x := ⟨_, List.getElem?_eq_getElem (by omega)⟩
          obtain ⟨ad1, hA1, y0, y1, y2, y3, y4, ylt⟩ := at_in (Kd.C_below HI.out hby) (fn.code.length - 1) x hx
          subst hA1
          have hL : lastB fn = (x.op == 9 || x.op == 16 || x.op == 17) := by unfold lastB; rw [List.getLast?_eq_getElem?, hx]; rfl
          have hAll : fn.code.all (codeB p fn) = true := by
            rw [List.all_eq_true]
            intro y hy
            obtain ⟨k, hk, rfl⟩ := List.mem_iff_getElem.1 hy
            have h := HK.out k hk
            rwa [List.getD_eq_getElem?_getD, List.getElem?_eq_getElem hk] at h
          have hFB : fnB p fn = lastB fn := by simp [fnB, hAll, a0, a1, b0, b1]
          have HL := Lib.hid hL
          have HFB := Lib.hid hFB
          clear hL hAll hFB
          rcases Bool.eq_false_or_eq_true (x.op == 9) with h9 | h9
          · have hFn : fnB p fn = true := by rw [show fnB p fn = lastB fn from HFB, show lastB fn = _ from HL, h9]; rfl
            go_wp2_with (go_at_call 94; (with_reducible refine (need_yes _ _ _ _ _).mono ?_); rintro e w1 ⟨rfl, rfl⟩)
            go_roundw
            case rel => exact ⟨i + 1, by omega, by simp, fun k hk => (by
              rcases Nat.lt_or_ge k i with h | h
              · exact HA.out k h
              · obtain rfl : k = i := by omega
                rw [List.getD_eq_getElem?_getD, HF.out]; exact hFn), HS.out.step (by (repeat (first | exact Below.refl _ _ | (with_reducible assumption) | refine below_thenB ?_ (by assumption) | refine below_alloc ?_ _ | refine below_drew ?_ | refine pw_below_drewN ?_ _ | refine Below.setCell ?_ (by first | (simp; done) | omega | (simp; omega)) _)))⟩
            case measure => simp [intOf]; omega
          rcases Bool.eq_false_or_eq_true (x.op == 16) with h16 | h16
          · have hFn : fnB p fn = true := by rw [show fnB p fn = lastB fn from HFB, show lastB fn = _ from HL, h9, h16]; rfl
            go_wp2_with (go_at_call 94; (with_reducible refine (need_yes _ _ _ _ _).mono ?_); rintro e w1 ⟨rfl, rfl⟩)
            go_roundw
            case rel => exact ⟨i + 1, by omega, by simp, fun k hk => (by
              rcases Nat.lt_or_ge k i with h | h
              · exact HA.out k h
              · obtain rfl : k = i := by omega
                rw [List.getD_eq_getElem?_getD, HF.out]; exact hFn), HS.out.step (by (repeat (first | exact Below.refl _ _ | (with_reducible assumption) | refine below_thenB ?_ (by assumption) | refine below_alloc ?_ _ | refine below_drew ?_ | refine pw_below_drewN ?_ _ | refine Below.setCell ?_ (by first | (simp; done) | omega | (simp; omega)) _)))⟩
            case measure => simp [intOf]; omega
          rcases Bool.eq_false_or_eq_true (x.op == 17) with h17 | h17
          · have hFn : fnB p fn = true := by rw [show fnB p fn = lastB fn from HFB, show lastB fn = _ from HL, h9, h16, h17]; rfl
            go_wp2_with (go_at_call 94; (with_reducible refine (need_yes _ _ _ _ _).mono ?_); rintro e w1 ⟨rfl, rfl⟩)
            go_roundw
            case rel => exact ⟨i + 1, by omega, by simp, fun k hk => (by
              rcases Nat.lt_or_ge k i with h | h
              · exact HA.out k h
              · obtain rfl : k = i := by omega
                rw [List.getD_eq_getElem?_getD, HF.out]; exact hFn), HS.out.step (by (repeat (first | exact Below.refl _ _ | (with_reducible assumption) | refine below_thenB ?_ (by assumption) | refine below_alloc ?_ _ | refine below_drew ?_ | refine pw_below_drewN ?_ _ | refine Below.setCell ?_ (by first | (simp; done) | omega | (simp; omega)) _)))⟩
            case measure => simp [intOf]; omega
          · have hFn : fnB p fn = false := by rw [show fnB p fn = lastB fn from HFB, show lastB fn = _ from HL, h9, h16, h17]; rfl
            go_wp2_with (go_at_call 94; (with_reducible refine (need_no _ _ _ _ _).mono ?_); rintro e w1 ⟨rfl, hb⟩)
            exact door_panics p w w1 (HS.out.step (by (repeat (first | exact Below.refl _ _ | (with_reducible assumption) | refine below_thenB ?_ (by assumption) | refine below_alloc ?_ _ | refine below_drew ?_ | refine pw_below_drewN ?_ _ | refine Below.setCell ?_ (by first | (simp; done) | omega | (simp; omega)) _)))) _ _ _ (by decide) (prog_false HF.out hFn) _ rfl rfl rfl
    · have di : decide ((i : Int) < (p.length : Int)) = false := by simp; omega
      have hP : progB p = true := by
        unfold progB
        simp only [Bool.and_eq_true, decide_eq_true_eq, List.all_eq_true]
        refine ⟨⟨hl.1, hl.2⟩, fun g hg => ?_⟩
        obtain ⟨k, hk, rfl⟩ := List.mem_iff_getElem.1 hg
        have := hall k (by omega)
        rwa [List.getD_eq_getElem?_getD, List.getElem?_eq_getElem hk] at this
      have c2 := cell_of_one S.h2
      have c3 := cell_of_one S.h3
      have c4 := cell_of_one S.h4
      have f2 := free_of_one S.h2
      have f3 := free_of_one S.h3
      have f4 := free_of_one S.h4
      go_wp2_with fail
      refine door_returns p w _ ⟨Below.setCell (Below.setCell (Below.setCell S.hb (by simp) _) (by simp) _) (by simp; omega) _, heap_far (heap_far (heap_near S.h2 rfl) (by simp)) (by simp; omega), heap_far (heap_near (heap_far S.h3 (by simp)) rfl) (by simp), heap_near (heap_far (heap_far S.h4 (by simp; omega)) (by simp)) rfl⟩ hP _ rfl rfl rfl
end Go.Proofs.Ytimmglnbjgbbjaa
