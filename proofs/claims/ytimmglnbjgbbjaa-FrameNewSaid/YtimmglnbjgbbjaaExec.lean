/- One instruction of a frame (frame.Exec). One instruction of a frame (frame.Exec): the budget is used up; what the instruction does. frame.Exec by one contract: what it answers, and what the frame is behind it. No conditions. -/
import Derived.Test.YtimmglnbjgbbjaaStep
import Derived.Test.YtimmglnbjgbbjaaRight
import Derived.Deep.DeepMust
set_option linter.unusedSimpArgs false
set_option linter.unusedVariables false
namespace Go.Proofs.Ytimmglnbjgbbjaa
open Go.RowKit Go.Proofs.YtimmglnbjgbbjaaW.PrintWords
abbrev effZ : Array Value := #[.int .i64 0, .int .i64 0, .int .i64 0, .int .i64 0, .int .i64 0, .int .i64 0, nilV, nilV]
/-- The variables of Exec. -/
structure ExSt (w : World) (bd dp : Int) (wx : World) : Prop where
  lim : wx.heap[w.heap.size]? = some (.cells #[.int .i64 bd, .int .i64 dp] 37 (0, 0))
  eff : wx.heap[w.heap.size + 1]? = some (.cells effZ 60 (0, 0))
  bel : Below w.heap.size w wx
theorem ExSt.step {w wx wy : World} {bd dp : Int} (h : ExSt w bd dp wx) (hb : Below wx.heap.size wx wy) : ExSt w bd dp wy := ⟨blk_below h.lim hb, blk_below h.eff hb, below_thenB h.bel hb⟩
theorem ExSt.start (w : World) (bd dp : Int) : ExSt w bd dp ((w.alloc (.cells #[.int .i64 bd, .int .i64 dp] 37)).alloc (.cells effZ 60)) :=
  ⟨heap_lt_alloc (heap_alloc_new _ _), heap_at_alloc (by simp), by (repeat (first | exact Below.refl _ _ | (with_reducible assumption) | refine below_thenB ?_ (by assumption) | refine below_alloc ?_ _ | refine below_drew ?_ | refine pw_below_drewN ?_ _ | refine Below.setCell ?_ (by first | (simp; done) | omega | (simp; omega)) _))⟩
theorem ExSt.facts {w wx : World} {bd dp : Int} (h : ExSt w bd dp wx) : w.heap.size + 1 < wx.heap.size ∧ w.heap.size < wx.heap.size ∧ (∀ j, wx.cell? ⟨w.heap.size, j, none⟩ = (#[Value.int .i64 bd, .int .i64 dp] : Array Value)[j]?) ∧ (∀ j, wx.cell? ⟨w.heap.size + 1, j, none⟩ = effZ[j]?) ∧ ∀ j, wx.frozen? ⟨w.heap.size + 1, j, none⟩ = false :=
  ⟨blk_lt h.eff, blk_lt h.lim, fun j => blk_cell h.lim j, fun j => blk_cell h.eff j, fun j => by simp [World.frozen?, h.eff]⟩
/-- A struct of eight cells is stored, the function's end follows. -/
theorem post_put8 {P : Program} {fn : Func} {Q : Ending → World → Prop} {ex : Exit} {a : Act} {W : World} {g : Nat} {t : TypeId} {a0 a1 a2 a3 a4 a5 a6 a7 b0 b1 b2 b3 b4 b5 b6 b7 : Value} (h : W.heap[g]? = some (.cells #[a0, a1, a2, a3, a4, a5, a6, a7] t (0, 0)))
    (k : ∀ Z : World, (∀ j, Z.cell? ⟨g, j, none⟩ = (#[b0, b1, b2, b3, b4, b5, b6, b7] : Array Value)[j]?) → (∀ (S : Nat → Prop) (w : World), Keep S w W → (S g ∨ w.heap.size ≤ g) → Keep S w Z) → (∀ i, i ≠ g → Z.heap[i]? = W.heap[i]?) → bodyPost P fn Q ex a Z) :
    bodyPost P fn Q ex a ((((((((W.setCell ⟨g, 0, none⟩ b0).setCell ⟨g, 1, none⟩ b1).setCell ⟨g, 2, none⟩ b2).setCell ⟨g, 3, none⟩ b3).setCell ⟨g, 4, none⟩ b4).setCell ⟨g, 5, none⟩ b5).setCell ⟨g, 6, none⟩ b6).setCell ⟨g, 7, none⟩ b7) := by
  refine k _ (fun j => blk_cell (put8 h) j) (fun S w hk hg => keep8 hk hg _ _ _ _ _ _ _ _) (fun i hi => ?_)
  rw [heap_setCell_other _ _ _ _ hi, heap_setCell_other _ _ _ _ hi, heap_setCell_other _ _ _ _ hi, heap_setCell_other _ _ _ _ hi, heap_setCell_other _ _ _ _ hi, heap_setCell_other _ _ _ _ hi, heap_setCell_other _ _ _ _ hi, heap_setCell_other _ _ _ _ hi]
/-- Exec has refused: what it answers. -/
def Refused (err : Int) (w : World) (en : Ending) (w' : World) : Prop := en = .returned (.tuple #[.agg effZ, .int .i64 err]) ∧ Below w.heap.size w w'
section
variable (A : Option Addr) (cp : Nat) (p : List Fn) (bd dp : Int) (w : World) (hp : Kd.C (kFn 34) w A p.length p)
include hp
set_option maxRecDepth 20000 in
set_option maxHeartbeats 1600000 in
theorem exec_arg (pf : Option Addr) (hP : (progB p && limB bd dp) = false) :
    Calls Try.prog 24 #[.slice A p.length cp, .agg #[.int .i64 bd, .int .i64 dp], .pointer pf] w (Refused 1 w) := by
  have HP := Aside0.mk hp
  have HF := Aside0.mk hP
  clear hp hP
  go_enter Try.func24, Try.ntmps24
  go_wp2_with (go_at_call 51; go_must (refine (fright_any A cp p bd dp _ (Kd.C_below HP.out (by (repeat (first | exact Below.refl _ _ | (with_reducible assumption) | refine below_thenB ?_ (by assumption) | refine below_alloc ?_ _ | refine below_drew ?_ | refine pw_below_drewN ?_ _ | refine Below.setCell ?_ (by first | (simp; done) | omega | (simp; omega)) _))))).mono ?_; rintro e w1 ⟨rfl, hb⟩; rw [HF.out]; (obtain ⟨s1, s2, cL, cE, zE⟩ := ((ExSt.start w bd dp).step hb).facts); (have hbw : Below w.heap.size w w1 := by (repeat (first | exact Below.refl _ _ | (with_reducible assumption) | refine below_thenB ?_ (by assumption) | refine below_alloc ?_ _ | refine below_drew ?_ | refine pw_below_drewN ?_ _ | refine Below.setCell ?_ (by first | (simp; done) | omega | (simp; omega)) _)))))
  refine post_put8 ((ExSt.start w bd dp).step hb).eff (fun Z cZ kZ _ => ?_)
  refine bodyPost_ret (v := .tuple #[.agg effZ, .int .i64 1]) (by simp [results, Try.results24 , go_sem, cZ]) rfl ⟨rfl, (kZ (fun _ => False) w (Keep.of_below _ hbw) (.inr (by omega))).below⟩
/-- Where no instruction is. -/
def thereB (p : List Fn) (f : Fr) : Bool := decide (0 ≤ f.fn) && decide (f.fn < (p.length : Int)) && decide (0 ≤ f.at_) && decide (f.at_ < (((p[f.fn.toNat]?.getD zFn).code.length : Nat) : Int))
set_option maxRecDepth 20000 in
set_option maxHeartbeats 1600000 in
theorem exec_nil (hP : (progB p && limB bd dp) = true) :
    Calls Try.prog 24 #[.slice A p.length cp, .agg #[.int .i64 bd, .int .i64 dp], .pointer none] w (Refused 11 w) := by
  have HP := Aside0.mk hp
  have HF := Aside0.mk hP
  clear hp hP
  go_enter Try.func24, Try.ntmps24
  go_wp2_with (first | (go_at_call 51; go_must (refine (fright_any A cp p bd dp _ (Kd.C_below HP.out (by (repeat (first | exact Below.refl _ _ | (with_reducible assumption) | refine below_thenB ?_ (by assumption) | refine below_alloc ?_ _ | refine below_drew ?_ | refine pw_below_drewN ?_ _ | refine Below.setCell ?_ (by first | (simp; done) | omega | (simp; omega)) _))))).mono ?_; rintro e w1 ⟨rfl, hb⟩; rw [HF.out])) | (go_at_call 52; go_must (refine (there_nil _ _).mono ?_; rintro e w2 ⟨rfl, hb2⟩; (obtain ⟨s1, s2, cL, cE, zE⟩ := (((ExSt.start w bd dp).step hb).step hb2).facts); (have hbw : Below w.heap.size w w2 := by (repeat (first | exact Below.refl _ _ | (with_reducible assumption) | refine below_thenB ?_ (by assumption) | refine below_alloc ?_ _ | refine below_drew ?_ | refine pw_below_drewN ?_ _ | refine Below.setCell ?_ (by first | (simp; done) | omega | (simp; omega)) _))))))
  refine post_put8 (((ExSt.start w bd dp).step hb).step hb2).eff (fun Z cZ kZ _ => ?_)
  refine bodyPost_ret (v := .tuple #[.agg effZ, .int .i64 11]) (by simp [results, Try.results24 , go_sem, cZ]) rfl ⟨rfl, (kZ (fun _ => False) w (Keep.of_below _ hbw) (.inr (by omega))).below⟩
theorem there_any (bf : Nat) (pv : Value) (f : Fr) (hbf : w.heap[bf]? = some (.cells (FrB pv f) 80 (0, 0))) : Calls Try.prog 52 #[.slice A p.length cp, .pointer (some ⟨bf, 0, none⟩)] w fun e w' => e = .returned (.bool (thereB p f)) ∧ Below w.heap.size w w' := by
  have hpl := hp.2.1
  by_cases h1 : f.fn < 0
  · rw [show thereB p f = false by simp [thereB]; omega]
    exact there_1 A cp p bf pv f w hbf hpl h1
  by_cases h2 : (p.length : Int) ≤ f.fn
  · rw [show thereB p f = false by simp [thereB]; omega]
    exact there_2 A cp p bf pv f w hbf hpl h2
  by_cases h3 : f.at_ < 0
  · rw [show thereB p f = false by simp [thereB]; omega]
    exact there_3 A cp p bf pv f w hbf hpl (by omega) (by omega) h3
  have hi : f.fn = (f.fn.toNat : Nat) := by omega
  have hl : f.fn.toNat < p.length := by omega
  have hf := List.getElem?_eq_getElem hl
  rw [show thereB p f = decide (f.at_ < (p[f.fn.toNat].code.length : Int)) by simp [thereB, hf]; omega]
  exact there_4 A cp p bf pv f w hbf hpl f.fn.toNat _ hi hf (by omega) hp
set_option maxRecDepth 20000 in
set_option maxHeartbeats 1600000 in
theorem exec_off (bf : Nat) (pv : Value) (f : Fr) (hbf : w.heap[bf]? = some (.cells (FrB pv f) 80 (0, 0))) (hP : (progB p && limB bd dp) = true) (hT : thereB p f = false) :
    Calls Try.prog 24 #[.slice A p.length cp, .agg #[.int .i64 bd, .int .i64 dp], .pointer (some ⟨bf, 0, none⟩)] w (Refused 11 w) := by
  have HP := Aside0.mk hp
  have HF := Aside0.mk hP
  have HB := Aside0.mk hbf
  have HT := Aside0.mk hT
  clear hp hP hbf hT
  go_enter Try.func24, Try.ntmps24
  go_wp2_with (first | (go_at_call 51; go_must (refine (fright_any A cp p bd dp _ (Kd.C_below HP.out (by (repeat (first | exact Below.refl _ _ | (with_reducible assumption) | refine below_thenB ?_ (by assumption) | refine below_alloc ?_ _ | refine below_drew ?_ | refine pw_below_drewN ?_ _ | refine Below.setCell ?_ (by first | (simp; done) | omega | (simp; omega)) _))))).mono ?_; rintro e w1 ⟨rfl, hb⟩; rw [HF.out]; (have hF1 := Aside0.mk (show w1.heap[bf]? = some (.cells (FrB pv f) 80 (0, 0)) from blk_below (by have q := HB.out; (repeat (first | (with_reducible assumption) | (with_reducible refine heap_drew1 ?_) | (with_reducible refine heap_drewN1 ?_) | exact heap_at_alloc (by first | rfl | (simp; done) | (simp; omega)) | (with_reducible refine heap_lt_alloc ?_) | (refine heap_near ?_ (by first | rfl | (simp; done))) | (refine heap_far ?_ (by first | (simp; done) | (simp; omega))) | exact blk_below (by assumption) (by assumption)))) hb)))) | (go_at_call 52; go_must (refine (there_any A cp p _ (Kd.C_below HP.out (by (repeat (first | exact Below.refl _ _ | (with_reducible assumption) | refine below_thenB ?_ (by assumption) | refine below_alloc ?_ _ | refine below_drew ?_ | refine pw_below_drewN ?_ _ | refine Below.setCell ?_ (by first | (simp; done) | omega | (simp; omega)) _)))) bf pv f hF1.out).mono ?_; rintro e w2 ⟨rfl, hb2⟩; rw [HT.out]; (obtain ⟨s1, s2, cL, cE, zE⟩ := (((ExSt.start w bd dp).step hb).step hb2).facts); (have hbw : Below w.heap.size w w2 := by (repeat (first | exact Below.refl _ _ | (with_reducible assumption) | refine below_thenB ?_ (by assumption) | refine below_alloc ?_ _ | refine below_drew ?_ | refine pw_below_drewN ?_ _ | refine Below.setCell ?_ (by first | (simp; done) | omega | (simp; omega)) _))))))
  refine post_put8 (((ExSt.start w bd dp).step hb).step hb2).eff (fun Z cZ kZ _ => ?_)
  refine bodyPost_ret (v := .tuple #[.agg effZ, .int .i64 11]) (by simp [results, Try.results24 , go_sem, cZ]) rfl ⟨rfl, (kZ (fun _ => False) w (Keep.of_below _ hbw) (.inr (by omega))).below⟩
end
end Go.Proofs.Ytimmglnbjgbbjaa
namespace Go.Proofs.Ytimmglnbjgbbjaa
open Go.RowKit Go.Proofs.YtimmglnbjgbbjaaW.PrintWords
theorem fails_any (k : Int) (w : World) : Calls Try.prog 53 #[.int .i64 k] w fun e w' => e = .returned (effV 8 0 0 0 0 k nilV nilV) ∧ Below w.heap.size w w' := by
  go_enter Try.func53, Try.ntmps53
  go_wp2
  go_returns
  exact ⟨rfl, by (repeat (first | exact Below.refl _ _ | (with_reducible assumption) | refine below_thenB ?_ (by assumption) | refine below_alloc ?_ _ | refine below_drew ?_ | refine pw_below_drewN ?_ _ | refine Below.setCell ?_ (by first | (simp; done) | omega | (simp; omega)) _))⟩
section
variable (A : Option Addr) (cp : Nat) (p : List Fn) (bd dp : Int) (w : World) (hp : Kd.C (kFn 34) w A p.length p)
include hp
set_option maxRecDepth 20000 in
set_option maxHeartbeats 1600000 in
theorem exec_budget (bf : Nat) (pv : Value) (f : Fr) (hbf : w.heap[bf]? = some (.cells (FrB pv f) 80 (0, 0))) (hP : (progB p && limB bd dp) = true) (hT : thereB p f = true) (hs : bd ≤ f.steps) :
    Calls Try.prog 24 #[.slice A p.length cp, .agg #[.int .i64 bd, .int .i64 dp], .pointer (some ⟨bf, 0, none⟩)] w fun en w' => en = .returned (.tuple #[effV 8 0 0 0 0 3 nilV nilV, .int .i64 0]) ∧ Below w.heap.size w w' := by
  have HP := Aside0.mk hp
  have HF := Aside0.mk hP
  have HB := Aside0.mk hbf
  have HT := Aside0.mk hT
  have hd : decide (bd ≤ f.steps) = true := by simpa using hs
  clear hp hP hbf hT hs
  go_enter Try.func24, Try.ntmps24
  go_wp2_with (first | (go_at_call 51; go_must (refine (fright_any A cp p bd dp _ (Kd.C_below HP.out (by (repeat (first | exact Below.refl _ _ | (with_reducible assumption) | refine below_thenB ?_ (by assumption) | refine below_alloc ?_ _ | refine below_drew ?_ | refine pw_below_drewN ?_ _ | refine Below.setCell ?_ (by first | (simp; done) | omega | (simp; omega)) _))))).mono ?_; rintro e w1 ⟨rfl, hb⟩; rw [HF.out]; (have hF1 := Aside0.mk (show w1.heap[bf]? = some (.cells (FrB pv f) 80 (0, 0)) from blk_below (by have q := HB.out; (repeat (first | (with_reducible assumption) | (with_reducible refine heap_drew1 ?_) | (with_reducible refine heap_drewN1 ?_) | exact heap_at_alloc (by first | rfl | (simp; done) | (simp; omega)) | (with_reducible refine heap_lt_alloc ?_) | (refine heap_near ?_ (by first | rfl | (simp; done))) | (refine heap_far ?_ (by first | (simp; done) | (simp; omega))) | exact blk_below (by assumption) (by assumption)))) hb)))) | (go_at_call 52; go_must (refine (there_any A cp p _ (Kd.C_below HP.out (by (repeat (first | exact Below.refl _ _ | (with_reducible assumption) | refine below_thenB ?_ (by assumption) | refine below_alloc ?_ _ | refine below_drew ?_ | refine pw_below_drewN ?_ _ | refine Below.setCell ?_ (by first | (simp; done) | omega | (simp; omega)) _)))) bf pv f hF1.out).mono ?_; rintro e w2 ⟨rfl, hb2⟩; rw [HT.out]; (have hS := Aside0.mk (((ExSt.start w bd dp).step hb).step hb2)); (obtain ⟨s1, s2, cL, cE, zE⟩ := hS.out.facts); (have hbw : Below w.heap.size w w2 := by (repeat (first | exact Below.refl _ _ | (with_reducible assumption) | refine below_thenB ?_ (by assumption) | refine below_alloc ?_ _ | refine below_drew ?_ | refine pw_below_drewN ?_ _ | refine Below.setCell ?_ (by first | (simp; done) | omega | (simp; omega)) _))); (have hF2 := Aside0.mk (blk_below hF1.out hb2)); (obtain ⟨cFn, cAt, cSt, cKi, cPa, cR, cH, zF, hlt⟩ := fr_cells hF2.out); clear cKi cPa cR cH zF)))
  refine plan_begin (fun _ => False) 8 8 rfl (by kernel_rfl) (fun hSk => ?_)
  (refine plan_q 0 rfl (by kernel_rfl) (by kernel_rfl) (by kernel_rfl) rfl rfl (fun _ _ _ _ h => h) hSk (by decide) (by kernel_rfl) (fun K hK => ?_); go_big_quiet_op; with_reducible refine hK _ ?_; clear hK K)
  (refine plan_q 1 rfl (by kernel_rfl) (by kernel_rfl) (by kernel_rfl) rfl rfl (fun _ _ _ _ h => h) hSk (by decide) (by kernel_rfl) (fun K hK => ?_); go_big_quiet_op; with_reducible refine hK _ ?_; clear hK K)
  (refine plan_q 2 rfl (by kernel_rfl) (by kernel_rfl) (by kernel_rfl) rfl rfl (fun _ _ _ _ h => h) hSk (by decide) (by kernel_rfl) (fun K hK => ?_); go_big_quiet_op; with_reducible refine hK _ ?_; clear hK K)
  (refine plan_q 3 rfl (by kernel_rfl) (by kernel_rfl) (by kernel_rfl) rfl rfl (fun _ _ _ _ h => h) hSk (by decide) (by kernel_rfl) (fun K hK => ?_); go_big_quiet_op; with_reducible refine hK _ ?_; clear hK K)
  (refine plan_q 4 rfl (by kernel_rfl) (by kernel_rfl) (by kernel_rfl) rfl rfl (fun _ _ _ _ h => h) hSk (by decide) (by kernel_rfl) (fun K hK => ?_); go_big_quiet_op; with_reducible refine hK _ ?_; clear hK K)
  (refine plan_q 5 rfl (by kernel_rfl) (by kernel_rfl) (by kernel_rfl) rfl rfl (fun _ _ _ _ h => h) hSk (by decide) (by kernel_rfl) (fun K hK => ?_); go_big_quiet_op; with_reducible refine hK _ ?_; clear hK K)
  (refine plan_q 6 rfl (by kernel_rfl) (by kernel_rfl) (by kernel_rfl) rfl rfl (fun _ _ _ _ h => h) hSk (by decide) (by kernel_rfl) (fun K hK => ?_); go_big_quiet_op; with_reducible refine hK _ ?_; clear hK K)
  (refine plan_q 7 rfl (by kernel_rfl) (by kernel_rfl) (by kernel_rfl) rfl rfl (fun _ _ _ _ h => h) hSk (by decide) (by kernel_rfl) (fun K hK => ?_); go_big_quiet_op; with_reducible refine hK _ ?_; clear hK K)
  refine plan_e (by kernel_rfl) ?_
  clear hSk
  go_wp2_with (go_at_call 53; go_must (refine (fails_any _ _).mono ?_; rintro e w3 ⟨rfl, hb3⟩; (have hS3 := hS.out.step (wy := w3) (by (repeat (first | exact Below.refl _ _ | (with_reducible assumption) | refine below_thenB ?_ (by assumption) | refine below_alloc ?_ _ | refine below_drew ?_ | refine pw_below_drewN ?_ _ | refine Below.setCell ?_ (by first | (simp; done) | omega | (simp; omega)) _)))); (obtain ⟨s1, s2, cL, cE, zE⟩ := hS3.facts); (have hbw3 : Below w.heap.size w w3 := by (repeat (first | exact Below.refl _ _ | (with_reducible assumption) | refine below_thenB ?_ (by assumption) | refine below_alloc ?_ _ | refine below_drew ?_ | refine pw_below_drewN ?_ _ | refine Below.setCell ?_ (by first | (simp; done) | omega | (simp; omega)) _))); unfold effV))
  refine post_put8 hS3.eff (fun Z cZ kZ _ => ?_)
  refine bodyPost_ret (v := .tuple #[effV 8 0 0 0 0 3 nilV nilV, .int .i64 0]) (by simp [results, Try.results24 , go_sem, cZ, effV]) rfl ⟨rfl, (kZ (fun _ => False) w (Keep.of_below _ hbw3) (.inr (by omega))).below⟩
end
set_option maxRecDepth 20000 in
set_option maxHeartbeats 1600000 in
theorem exec_go (A : Option Addr) (cp : Nat) (p : List Fn) (bd dp : Int) (w : World) (bf : Nat) (hpF : Kd.F (kFn 34) w (fun k => k ≠ bf) A p.length p) (PA : Option Addr) (pc : Nat) (path : List Int) (f : Fr) (hbf : w.heap[bf]? = some (.cells (FrB (.slice PA path.length pc) f) 80 (0, 0))) (hqF : Kd.F (Kd.int .i64) w (fun k => k ≠ bf) PA path.length path) (hpl : path.length ≤ 1000)
    (hP : (progB p && limB bd dp) = true) (hT : thereB p f = true) (hs : ¬ bd ≤ f.steps) (i j : Nat) (fn : Fn) (x : In) (hi : f.fn = i) (hf : p[i]? = some fn) (hj : f.at_ = j) (hxj : fn.code[j]? = some x) (hok : InOk p fn x) :
    Calls Try.prog 24 #[.slice A p.length cp, .agg #[.int .i64 bd, .int .i64 dp], .pointer (some ⟨bf, 0, none⟩)] w fun en w' => ∃ av qv, en = .returned (.tuple #[effV (doP p dp path x { f with steps := wrap64 (f.steps + 1), at_ := (j : Int) + 1 }).1.kind (doP p dp path x { f with steps := wrap64 (f.steps + 1), at_ := (j : Int) + 1 }).1.value (doP p dp path x { f with steps := wrap64 (f.steps + 1), at_ := (j : Int) + 1 }).1.reg (doP p dp path x { f with steps := wrap64 (f.steps + 1), at_ := (j : Int) + 1 }).1.fn (doP p dp path x { f with steps := wrap64 (f.steps + 1), at_ := (j : Int) + 1 }).1.hand (doP p dp path x { f with steps := wrap64 (f.steps + 1), at_ := (j : Int) + 1 }).1.why av qv, .int .i64 0]) ∧
      Kd.R (Kd.int .i64) 2 w' w.heap.size (fun _ => True) av (doP p dp path x { f with steps := wrap64 (f.steps + 1), at_ := (j : Int) + 1 }).1.args ∧ Kd.R (Kd.int .i64) 3 w' w.heap.size (fun _ => True) qv (doP p dp path x { f with steps := wrap64 (f.steps + 1), at_ := (j : Int) + 1 }).1.path ∧
      w'.heap[bf]? = some (.cells (FrB (.slice PA path.length pc) (doP p dp path x { f with steps := wrap64 (f.steps + 1), at_ := (j : Int) + 1 }).2) 80 (0, 0)) ∧ Keep (fun k => k = bf) w w' := by
  generalize hf' : ({ f with steps := wrap64 (f.steps + 1), at_ := (j : Int) + 1 } : Fr) = f'
  have hp := Kd.F_now hpF
  have hpath := Kd.F_now hqF
  have HPF := Aside0.mk hpF
  have HQF := Aside0.mk hqF
  have HF' := Aside0.mk hf'
  clear hpF hqF hf'
  obtain ⟨ad, A1, c1, rfl, hx0, hx1, hl1, hi1, hlt1⟩ := at_fn hp i fn hf
  obtain ⟨ad2, rfl, hy0, hy1, hy2, hy3, hy4, hlt2⟩ := at_in hi1 j x hxj
  have HP := Aside0.mk hp
  have HF := Aside0.mk hP
  have HB := Aside0.mk hbf
  have HT := Aside0.mk hT
  have HX := Aside0.mk hx1
  have HY := Aside0.mk (And.intro hy0 (And.intro hy1 (And.intro hy2 (And.intro hy3 hy4))))
  have HQ := Aside0.mk hpath
  have HL := Aside0.mk hpl
  have HI := Aside0.mk hi
  have HJ := Aside0.mk hj
  have HO := Aside0.mk hok
  have hil : (i : Int) < (p.length : Int) := by have := (List.getElem?_eq_some_iff.1 hf).1; omega
  have hjl : (j : Int) < (fn.code.length : Int) := by have := (List.getElem?_eq_some_iff.1 hxj).1; omega
  have j9 : (j : Int) + 1 ≤ 9223372036854775807 := by have := hi1.2.1; omega
  have i0 : (0 : Int) ≤ (i : Int) := by omega
  have j0 : (0 : Int) ≤ (j : Int) := by omega
  have hd : decide (bd ≤ f.steps) = false := by simpa using hs
  have hlt : bf < w.heap.size := blk_lt hbf
  clear hP hbf hT hs hx0 hx1 hl1 hi1 hy0 hy1 hy2 hy3 hy4 hpath hpl hi hj hok hf hxj hp
  go_enter Try.func24, Try.ntmps24
  go_wp2_with (first | (go_at_call 51; go_must (refine (fright_any (some ad) cp p bd dp _ (Kd.C_below HP.out (by (repeat (first | exact Below.refl _ _ | (with_reducible assumption) | refine below_thenB ?_ (by assumption) | refine below_alloc ?_ _ | refine below_drew ?_ | refine pw_below_drewN ?_ _ | refine Below.setCell ?_ (by first | (simp; done) | omega | (simp; omega)) _))))).mono ?_; rintro e w1 ⟨rfl, hb⟩; rw [HF.out]; (have hF1 := Aside0.mk (show w1.heap[bf]? = some (.cells (FrB (.slice PA path.length pc) f) 80 (0, 0)) from blk_below (by have q := HB.out; (repeat (first | (with_reducible assumption) | (with_reducible refine heap_drew1 ?_) | (with_reducible refine heap_drewN1 ?_) | exact heap_at_alloc (by first | rfl | (simp; done) | (simp; omega)) | (with_reducible refine heap_lt_alloc ?_) | (refine heap_near ?_ (by first | rfl | (simp; done))) | (refine heap_far ?_ (by first | (simp; done) | (simp; omega))) | exact blk_below (by assumption) (by assumption)))) hb)))) | (go_at_call 52; go_must (refine (there_any (some ad) cp p _ (Kd.C_below HP.out (by (repeat (first | exact Below.refl _ _ | (with_reducible assumption) | refine below_thenB ?_ (by assumption) | refine below_alloc ?_ _ | refine below_drew ?_ | refine pw_below_drewN ?_ _ | refine Below.setCell ?_ (by first | (simp; done) | omega | (simp; omega)) _)))) bf (.slice PA path.length pc) f hF1.out).mono ?_; rintro e w2 ⟨rfl, hb2⟩; rw [HT.out]; (have hS := Aside0.mk (((ExSt.start w bd dp).step hb).step hb2)); (obtain ⟨s1, s2, cL, cE, zE⟩ := hS.out.facts); (have hbw : Below w.heap.size w w2 := by (repeat (first | exact Below.refl _ _ | (with_reducible assumption) | refine below_thenB ?_ (by assumption) | refine below_alloc ?_ _ | refine below_drew ?_ | refine pw_below_drewN ?_ _ | refine Below.setCell ?_ (by first | (simp; done) | omega | (simp; omega)) _))); (have hF2 := Aside0.mk (blk_below hF1.out hb2)); (obtain ⟨cFn, cAt, cSt, cKi, cPa, cR, cH, zF, hlt⟩ := fr_cells hF2.out); clear cKi cPa cR cH zF)))
  refine plan_begin (fun _ => False) 8 8 rfl (by kernel_rfl) (fun hSk => ?_)
  (refine plan_q 0 rfl (by kernel_rfl) (by kernel_rfl) (by kernel_rfl) rfl rfl (fun _ _ _ _ h => h) hSk (by decide) (by kernel_rfl) (fun K hK => ?_); go_big_quiet_op; with_reducible refine hK _ ?_; clear hK K)
  (refine plan_q 1 rfl (by kernel_rfl) (by kernel_rfl) (by kernel_rfl) rfl rfl (fun _ _ _ _ h => h) hSk (by decide) (by kernel_rfl) (fun K hK => ?_); go_big_quiet_op; with_reducible refine hK _ ?_; clear hK K)
  (refine plan_q 2 rfl (by kernel_rfl) (by kernel_rfl) (by kernel_rfl) rfl rfl (fun _ _ _ _ h => h) hSk (by decide) (by kernel_rfl) (fun K hK => ?_); go_big_quiet_op; with_reducible refine hK _ ?_; clear hK K)
  (refine plan_q 3 rfl (by kernel_rfl) (by kernel_rfl) (by kernel_rfl) rfl rfl (fun _ _ _ _ h => h) hSk (by decide) (by kernel_rfl) (fun K hK => ?_); go_big_quiet_op; with_reducible refine hK _ ?_; clear hK K)
  (refine plan_q 4 rfl (by kernel_rfl) (by kernel_rfl) (by kernel_rfl) rfl rfl (fun _ _ _ _ h => h) hSk (by decide) (by kernel_rfl) (fun K hK => ?_); go_big_quiet_op; with_reducible refine hK _ ?_; clear hK K)
  (refine plan_q 5 rfl (by kernel_rfl) (by kernel_rfl) (by kernel_rfl) rfl rfl (fun _ _ _ _ h => h) hSk (by decide) (by kernel_rfl) (fun K hK => ?_); go_big_quiet_op; with_reducible refine hK _ ?_; clear hK K)
  (refine plan_q 6 rfl (by kernel_rfl) (by kernel_rfl) (by kernel_rfl) rfl rfl (fun _ _ _ _ h => h) hSk (by decide) (by kernel_rfl) (fun K hK => ?_); go_big_quiet_op; with_reducible refine hK _ ?_; clear hK K)
  (refine plan_q 7 rfl (by kernel_rfl) (by kernel_rfl) (by kernel_rfl) rfl rfl (fun _ _ _ _ h => h) hSk (by decide) (by kernel_rfl) (fun K hK => ?_); go_big_quiet_op; with_reducible refine hK _ ?_; clear hK K)
  refine plan_e (by kernel_rfl) ?_
  clear hSk
  go_wp2_with fail
  rw [HI.out] at cFn
  rw [HJ.out] at cAt
  have hq1 := ((bcell hbw).1 _ _ hlt1).trans HX.out
  obtain ⟨hy0, hy1, hy2, hy3, hy4⟩ := HY.out
  have hq0 := (hbw.cell (p := ad2.add (j * 5)) hlt2).trans hy0
  have hq2 := ((bcell hbw).1 _ _ hlt2).trans hy1
  have hq3 := ((bcell hbw).1 _ _ hlt2).trans hy2
  have hq4 := ((bcell hbw).1 _ _ hlt2).trans hy3
  have hq5 := ((bcell hbw).1 _ _ hlt2).trans hy4
  clear hy0 hy1 hy2 hy3 hy4
  have ht1 : (ad.add (i * 2)).block < w2.heap.size := by omega
  have ht2 : (ad2.add (j * 5)).block < w2.heap.size := by omega
  refine plan_begin (fun _ => False) 15 16 rfl (by kernel_rfl) (fun hSk => ?_)
  (refine plan_q 0 rfl (by kernel_rfl) (by kernel_rfl) (by kernel_rfl) rfl rfl (fun _ _ _ _ h => h) hSk (by decide) (by kernel_rfl) (fun K hK => ?_); go_big_quiet_op; with_reducible refine hK _ ?_; clear hK K)
  (refine plan_q 1 rfl (by kernel_rfl) (by kernel_rfl) (by kernel_rfl) rfl rfl (fun _ _ _ _ h => h) hSk (by decide) (by kernel_rfl) (fun K hK => ?_); go_big_quiet_op; with_reducible refine hK _ ?_; clear hK K)
  (refine plan_q 2 rfl (by kernel_rfl) (by kernel_rfl) (by kernel_rfl) rfl rfl (fun _ _ _ _ h => h) hSk (by decide) (by kernel_rfl) (fun K hK => ?_); go_big_quiet_op; with_reducible refine hK _ ?_; clear hK K)
  (refine plan_q 3 rfl (by kernel_rfl) (by kernel_rfl) (by kernel_rfl) rfl rfl (fun _ _ _ _ h => h) hSk (by decide) (by kernel_rfl) (fun K hK => ?_); go_big_quiet_op; with_reducible refine hK _ ?_; clear hK K)
  (refine plan_q 4 rfl (by kernel_rfl) (by kernel_rfl) (by kernel_rfl) rfl rfl (fun _ _ _ _ h => h) hSk (by decide) (by kernel_rfl) (fun K hK => ?_); go_big_quiet_op; with_reducible refine hK _ ?_; clear hK K)
  (refine plan_q 5 rfl (by kernel_rfl) (by kernel_rfl) (by kernel_rfl) rfl rfl (fun _ _ _ _ h => h) hSk (by decide) (by kernel_rfl) (fun K hK => ?_); go_big_quiet_op; with_reducible refine hK _ ?_; clear hK K)
  (refine plan_q 6 rfl (by kernel_rfl) (by kernel_rfl) (by kernel_rfl) rfl rfl (fun _ _ _ _ h => h) hSk (by decide) (by kernel_rfl) (fun K hK => ?_); go_big_quiet_op; with_reducible refine hK _ ?_; clear hK K)
  (refine plan_q 7 rfl (by kernel_rfl) (by kernel_rfl) (by kernel_rfl) rfl rfl (fun _ _ _ _ h => h) hSk (by decide) (by kernel_rfl) (fun K hK => ?_); go_big_quiet_op; with_reducible refine hK _ ?_; clear hK K)
  (refine plan_q 8 rfl (by kernel_rfl) (by kernel_rfl) (by kernel_rfl) rfl rfl (fun _ _ _ _ h => h) hSk (by decide) (by kernel_rfl) (fun K hK => ?_); go_big_quiet_op; with_reducible refine hK _ ?_; clear hK K)
  (refine plan_q 9 rfl (by kernel_rfl) (by kernel_rfl) (by kernel_rfl) rfl rfl (fun _ _ _ _ h => h) hSk (by decide) (by kernel_rfl) (fun K hK => ?_); go_big_quiet_op; with_reducible refine hK _ ?_; clear hK K)
  (refine plan_q 10 rfl (by kernel_rfl) (by kernel_rfl) (by kernel_rfl) rfl rfl (fun _ _ _ _ h => h) hSk (by decide) (by kernel_rfl) (fun K hK => ?_); go_big_quiet_op; with_reducible refine hK _ ?_; clear hK K)
  (refine plan_q 11 rfl (by kernel_rfl) (by kernel_rfl) (by kernel_rfl) rfl rfl (fun _ _ _ _ h => h) hSk (by decide) (by kernel_rfl) (fun K hK => ?_); go_big_quiet_op; with_reducible refine hK _ ?_; clear hK K)
  (refine plan_q 12 rfl (by kernel_rfl) (by kernel_rfl) (by kernel_rfl) rfl rfl (fun _ _ _ _ h => h) hSk (by decide) (by kernel_rfl) (fun K hK => ?_); go_big_quiet_op; with_reducible refine hK _ ?_; clear hK K)
  (refine plan_q 13 rfl (by kernel_rfl) (by kernel_rfl) (by kernel_rfl) rfl rfl (fun _ _ _ _ h => h) hSk (by decide) (by kernel_rfl) (fun K hK => ?_); go_big_quiet_op; with_reducible refine hK _ ?_; clear hK K)
  (refine plan_l 14 rfl (by kernel_rfl) (fun K hK => ?_); go_wp2_with (fail); (try simp only [Exit.then]); (try simp only [Act.put, List.setIfInBounds_toArray, List.set_cons_succ, List.set_cons_zero]); refine hK _ _ (fun hz0 => by clear hz0 hSk; (repeat (first | with_reducible exact Keep.refl _ _ | (with_reducible refine Keep.left ?_) | (with_reducible refine Keep.leftN ?_) | (with_reducible assumption) | (with_reducible refine Keep.setCell ?_ ?hs _; case hs => (first | (exact .inl rfl) | (simp; done) | (right; omega) | (right; simp; omega))) | (with_reducible refine Keep.allocs ?_ (by simp; done) _) | (with_reducible refine Keep.alloc ?_ _) | (with_reducible refine Keep.drew ?_) | (with_reducible refine Keep.drewN ?_ _) | refine Keep.thenBelow ?_ (by assumption) | refine Keep.grown ?_ (by assumption) (by intro k hk; (first | (cases hk; done) | (exfalso; simp [Value.ownBlock] at hk; done) | (simp [Value.ownBlock] at hk; subst hk; (first | (right; simp; omega) | (left; first | rfl | simp)))) ) | refine Keep.trans ?_ (by assumption) | (with_reducible refine Keep.allocs ?_ (by simp; done) _) | refine Keep.alloc ?_ _ | refine Keep.drew ?_ | refine Keep.drewN ?_ _ | refine Keep.setCell ?_ (by first | (exact .inl rfl) | (simp; done) | (right; omega) | (right; simp; omega)) _))) (fun hSk1 => ?_); clear hK K hSk; replace hSk1 := hSk1 (by decide); have hSk := hSk1; clear hSk1)
  (refine plan_l 15 rfl (by kernel_rfl) (fun K hK => ?_); go_wp2_with (fail); (try simp only [Exit.then]); (try simp only [Act.put, List.setIfInBounds_toArray, List.set_cons_succ, List.set_cons_zero]); refine hK _ _ (fun hz0 => by exact absurd rfl hz0) (fun hSk1 => ?_); clear hK K hSk)
  refine plan_e (by kernel_rfl) ?_
  clear hSk1
  obtain ⟨X, hX⟩ : ∃ X, X = (w2.alloc (.cells #[.int .i64 x.op, .int .i64 x.a, .int .i64 x.b, .int .i64 x.c, .int .i64 x.k] 24)).drew.drew := ⟨_, rfl⟩
  rw [← hX]
  have xS : ExSt w bd dp X := by rw [hX]; exact hS.out.step (by (repeat (first | exact Below.refl _ _ | (with_reducible assumption) | refine below_thenB ?_ (by assumption) | refine below_alloc ?_ _ | refine below_drew ?_ | refine pw_below_drewN ?_ _ | refine Below.setCell ?_ (by first | (simp; done) | omega | (simp; omega)) _)))
  have xF : X.heap[bf]? = some (.cells (FrB (.slice PA path.length pc) f) 80 (0, 0)) := by rw [hX]; exact heap_lt_alloc hF2.out
  have xI : X.heap[w2.heap.size]? = some (.cells #[.int .i64 x.op, .int .i64 x.a, .int .i64 x.b, .int .i64 x.c, .int .i64 x.k] 24 (0, 0)) := by rw [hX]; exact heap_alloc_new _ _
  have xb : w.heap.size + 1 < w2.heap.size := by omega
  generalize w2.heap.size = bi at *
  clear hX hq0 hq1 hq2 hq3 hq4 hq5 ht1 ht2 cFn cAt cSt cL cE zE s1 s2 hlt hbw hF1 hF2 hS hb hb2
  obtain ⟨cFn, cAt, cSt, cKi, cPa, cR, cH, zF, hlt⟩ := fr_cells xF
  have z1 := zF 1
  have z2 := zF 2
  have XS := Aside0.mk xS
  have XF := Aside0.mk xF
  have XI := Aside0.mk xI
  rw [HJ.out] at cAt
  clear cFn cKi cPa cR cH zF xS xF xI
  go_wp2_with fail
  obtain ⟨Y, hY⟩ : ∃ Y, Y = (X.setCell ⟨bf, 2, none⟩ (.int .i64 (wrap64 (f.steps + 1)))).setCell ⟨bf, 1, none⟩ (.int .i64 ((j : Int) + 1)) := ⟨_, rfl⟩
  rw [← hY]
  have yF : Y.heap[bf]? = some (.cells (FrB (.slice PA path.length pc) f') 80 (0, 0)) := by rw [hY, ← HF'.out]; exact heap_near (heap_near XF.out rfl) (by rw [← HJ.out]; rfl)
  have n0 : w.heap.size ≠ bf := by omega
  have n1 : w.heap.size + 1 ≠ bf := by omega
  have n2 : bi ≠ bf := by omega
  have yI : Y.heap[bi]? = some (.cells #[.int .i64 x.op, .int .i64 x.a, .int .i64 x.b, .int .i64 x.c, .int .i64 x.k] 24 (0, 0)) := by rw [hY]; exact heap_far (heap_far XI.out n2) n2
  have yL : Y.heap[w.heap.size]? = some (.cells #[.int .i64 bd, .int .i64 dp] 37 (0, 0)) := by rw [hY]; exact heap_far (heap_far XS.out.lim n0) n0
  have yE : Y.heap[w.heap.size + 1]? = some (.cells effZ 60 (0, 0)) := by rw [hY]; exact heap_far (heap_far XS.out.eff n1) n1
  have yK : Keep (fun k => k = bf) w Y := by rw [hY]; exact Keep.setCell (S := fun k => k = bf) (p := ⟨bf, 1, none⟩) (Keep.setCell (S := fun k => k = bf) (p := ⟨bf, 2, none⟩) (Keep.of_below _ XS.out.bel) (.inl rfl) _) (.inl rfl) _
  have n3 : ¬ bi = w.heap.size + 1 := by omega
  have YF := Aside0.mk yF
  have YE := Aside0.mk yE
  have YK := Aside0.mk yK
  have YS := Aside0.mk (XS.out.bel.size)
  have cI := fun k => blk_cell yI k
  have cL := fun k => blk_cell yL k
  have s0 := blk_lt yI
  have s1 := blk_lt yL
  have s2 := blk_lt yE
  have s3 := blk_lt yF
  clear hY cAt cSt z1 z2 hlt yF yE yK
  obtain ⟨E, f2, hE⟩ : ∃ E f2, doP p dp path x f' = (E, f2) := ⟨_, _, rfl⟩
  have HE := Aside0.mk hE
  clear hE
  refine plan_begin (fun k => k = bf ∨ k = w.heap.size + 1) 12 12 rfl (by kernel_rfl) (fun hSk => ?_)
  (refine plan_q 1 rfl (by kernel_rfl) (by kernel_rfl) (by kernel_rfl) rfl rfl (fun _ _ _ _ h => h) hSk (by decide) (by kernel_rfl) (fun K hK => ?_); go_big_quiet_op; with_reducible refine hK _ ?_; clear hK K)
  (refine plan_q 2 rfl (by kernel_rfl) (by kernel_rfl) (by kernel_rfl) rfl rfl (fun _ _ _ _ h => h) hSk (by decide) (by kernel_rfl) (fun K hK => ?_); go_big_quiet_op; with_reducible refine hK _ ?_; clear hK K)
  (refine plan_q 4 rfl (by kernel_rfl) (by kernel_rfl) (by kernel_rfl) rfl rfl (fun _ _ _ _ h => h) hSk (by decide) (by kernel_rfl) (fun K hK => ?_); go_big_quiet_op; with_reducible refine hK _ ?_; clear hK K)
  (refine plan_q 5 rfl (by kernel_rfl) (by kernel_rfl) (by kernel_rfl) rfl rfl (fun _ _ _ _ h => h) hSk (by decide) (by kernel_rfl) (fun K hK => ?_); go_big_quiet_op; with_reducible refine hK _ ?_; clear hK K)
  (refine plan_q 6 rfl (by kernel_rfl) (by kernel_rfl) (by kernel_rfl) rfl rfl (fun _ _ _ _ h => h) hSk (by decide) (by kernel_rfl) (fun K hK => ?_); go_big_quiet_op; with_reducible refine hK _ ?_; clear hK K)
  (refine plan_q 7 rfl (by kernel_rfl) (by kernel_rfl) (by kernel_rfl) rfl rfl (fun _ _ _ _ h => h) hSk (by decide) (by kernel_rfl) (fun K hK => ?_); go_big_quiet_op; with_reducible refine hK _ ?_; clear hK K)
  (refine plan_q 8 rfl (by kernel_rfl) (by kernel_rfl) (by kernel_rfl) rfl rfl (fun _ _ _ _ h => h) hSk (by decide) (by kernel_rfl) (fun K hK => ?_); go_big_quiet_op; with_reducible refine hK _ ?_; clear hK K)
  (refine plan_l 0 rfl (by kernel_rfl) (fun K hK => ?_); go_wp2_with (first | (go_at_call 54; go_must (refine (deeds_look _).mono ?_; rintro e w4 ⟨r, rfl, hm, hb4⟩; (have hl := look_op w4 r x.op HO.out.op1 HO.out.op17 hm); (have hb5 : Below Y.heap.size Y w4 := by (repeat (first | exact Below.refl _ _ | (with_reducible assumption) | refine below_thenB ?_ (by assumption) | refine below_alloc ?_ _ | refine below_drew ?_ | refine pw_below_drewN ?_ _ | refine Below.setCell ?_ (by first | (simp; done) | omega | (simp; omega)) _))))) | (refine goesD (some 67) rfl rfl _ rfl (by rfl) (by rfl) (deed_enters x.op) ?_; go_must (refine calls_of_args (args' := #[.agg #[.slice (some ad) p.length cp, .int .i64 bd, .int .i64 dp, .pointer (some ⟨bf, 0, none⟩)], inV x]) (by simp [Act.eval, inV]) ?_; refine (do_any (some ad) cp p bd dp bf PA pc path f' _ (blk_below YF.out hb5) (Kd.F_now (Kd.F_below (Keep.F YK.out HQF.out (fun k hk => hk)) hb5)) HL.out (Kd.F_now (Kd.F_below (Keep.F YK.out HPF.out (fun k hk => hk)) hb5)) (Bool.and_eq_true _ _ ▸ HF.out).1 fn x HO.out).mono ?_; intro e w5 hD; unfold DoOut at hD; rw [HE.out] at hD; (obtain ⟨av, qv, rfl, hA, hQ, hF5, hK5⟩ := hD); (obtain ⟨Aa, ca, rfl⟩ := Kd.R_slice hA); (obtain ⟨Av, cv, rfl⟩ := Kd.R_slice hQ); (have hK6 : Keep (fun k => k = bf ∨ k = w.heap.size + 1) Y w5 := Keep.trans (Keep.of_below _ hb5) (Keep.mono hK5 (fun k hk => .inl hk))); (have hE5 := hK5.heap (blk_below YE.out hb5) n1); (have zE5 : ∀ j, w5.frozen? ⟨w.heap.size + 1, j, none⟩ = false := fun j => by simp [World.frozen?, hE5]); (have cE5 := fun j => blk_cell hE5 j); unfold effV; dsimp only))); (try simp only [Exit.then]); (try simp only [Act.put, List.setIfInBounds_toArray, List.set_cons_succ, List.set_cons_zero]); refine hK _ _ (fun hz0 => by clear hz0 hSk; (repeat (first | with_reducible exact Keep.refl _ _ | (with_reducible refine Keep.left ?_) | (with_reducible refine Keep.leftN ?_) | (with_reducible assumption) | (with_reducible refine Keep.setCell ?_ ?hs _; case hs => (first | (exact .inl rfl) | (simp; done) | (right; omega) | (right; simp; omega))) | (with_reducible refine Keep.allocs ?_ (by simp; done) _) | (with_reducible refine Keep.alloc ?_ _) | (with_reducible refine Keep.drew ?_) | (with_reducible refine Keep.drewN ?_ _) | refine Keep.thenBelow ?_ (by assumption) | refine Keep.grown ?_ (by assumption) (by intro k hk; (first | (cases hk; done) | (exfalso; simp [Value.ownBlock] at hk; done) | (simp [Value.ownBlock] at hk; subst hk; (first | (right; simp; omega) | (left; first | rfl | simp)))) ) | refine Keep.trans ?_ (by assumption) | (with_reducible refine Keep.allocs ?_ (by simp; done) _) | refine Keep.alloc ?_ _ | refine Keep.drew ?_ | refine Keep.drewN ?_ _ | refine Keep.setCell ?_ (by first | (exact .inl rfl) | (simp; done) | (right; omega) | (right; simp; omega)) _))) (fun hSk1 => ?_); clear hK K hSk; replace hSk1 := hSk1 (by decide); have hSk := hSk1; clear hSk1)
  (refine plan_l 3 rfl (by kernel_rfl) (fun K hK => ?_); go_wp2_with (first | (go_at_call 54; go_must (refine (deeds_look _).mono ?_; rintro e w4 ⟨r, rfl, hm, hb4⟩; (have hl := look_op w4 r x.op HO.out.op1 HO.out.op17 hm); (have hb5 : Below Y.heap.size Y w4 := by (repeat (first | exact Below.refl _ _ | (with_reducible assumption) | refine below_thenB ?_ (by assumption) | refine below_alloc ?_ _ | refine below_drew ?_ | refine pw_below_drewN ?_ _ | refine Below.setCell ?_ (by first | (simp; done) | omega | (simp; omega)) _))))) | (refine goesD (some 67) rfl rfl _ rfl (by rfl) (by rfl) (deed_enters x.op) ?_; go_must (refine calls_of_args (args' := #[.agg #[.slice (some ad) p.length cp, .int .i64 bd, .int .i64 dp, .pointer (some ⟨bf, 0, none⟩)], inV x]) (by simp [Act.eval, inV]) ?_; refine (do_any (some ad) cp p bd dp bf PA pc path f' _ (blk_below YF.out hb5) (Kd.F_now (Kd.F_below (Keep.F YK.out HQF.out (fun k hk => hk)) hb5)) HL.out (Kd.F_now (Kd.F_below (Keep.F YK.out HPF.out (fun k hk => hk)) hb5)) (Bool.and_eq_true _ _ ▸ HF.out).1 fn x HO.out).mono ?_; intro e w5 hD; unfold DoOut at hD; rw [HE.out] at hD; (obtain ⟨av, qv, rfl, hA, hQ, hF5, hK5⟩ := hD); (obtain ⟨Aa, ca, rfl⟩ := Kd.R_slice hA); (obtain ⟨Av, cv, rfl⟩ := Kd.R_slice hQ); (have hK6 : Keep (fun k => k = bf ∨ k = w.heap.size + 1) Y w5 := Keep.trans (Keep.of_below _ hb5) (Keep.mono hK5 (fun k hk => .inl hk))); (have hE5 := hK5.heap (blk_below YE.out hb5) n1); (have zE5 : ∀ j, w5.frozen? ⟨w.heap.size + 1, j, none⟩ = false := fun j => by simp [World.frozen?, hE5]); (have cE5 := fun j => blk_cell hE5 j); unfold effV; dsimp only))); (try simp only [Exit.then]); (try simp only [Act.put, List.setIfInBounds_toArray, List.set_cons_succ, List.set_cons_zero]); refine hK _ _ (fun hz0 => by clear hz0 hSk; (repeat (first | with_reducible exact Keep.refl _ _ | (with_reducible refine Keep.left ?_) | (with_reducible refine Keep.leftN ?_) | (with_reducible assumption) | (with_reducible refine Keep.setCell ?_ ?hs _; case hs => (first | (exact .inl rfl) | (simp; done) | (right; omega) | (right; simp; omega))) | (with_reducible refine Keep.allocs ?_ (by simp; done) _) | (with_reducible refine Keep.alloc ?_ _) | (with_reducible refine Keep.drew ?_) | (with_reducible refine Keep.drewN ?_ _) | refine Keep.thenBelow ?_ (by assumption) | refine Keep.grown ?_ (by assumption) (by intro k hk; (first | (cases hk; done) | (exfalso; simp [Value.ownBlock] at hk; done) | (simp [Value.ownBlock] at hk; subst hk; (first | (right; simp; omega) | (left; first | rfl | simp)))) ) | refine Keep.trans ?_ (by assumption) | (with_reducible refine Keep.allocs ?_ (by simp; done) _) | refine Keep.alloc ?_ _ | refine Keep.drew ?_ | refine Keep.drewN ?_ _ | refine Keep.setCell ?_ (by first | (exact .inl rfl) | (simp; done) | (right; omega) | (right; simp; omega)) _))) (fun hSk1 => ?_); clear hK K hSk; replace hSk1 := hSk1 (by decide); have hSk := hSk1; clear hSk1)
  (refine plan_l 9 rfl (by kernel_rfl) (fun K hK => ?_); go_wp2_with (first | (go_at_call 54; go_must (refine (deeds_look _).mono ?_; rintro e w4 ⟨r, rfl, hm, hb4⟩; (have hl := look_op w4 r x.op HO.out.op1 HO.out.op17 hm); (have hb5 : Below Y.heap.size Y w4 := by (repeat (first | exact Below.refl _ _ | (with_reducible assumption) | refine below_thenB ?_ (by assumption) | refine below_alloc ?_ _ | refine below_drew ?_ | refine pw_below_drewN ?_ _ | refine Below.setCell ?_ (by first | (simp; done) | omega | (simp; omega)) _))))) | (refine goesD (some 67) rfl rfl _ rfl (by rfl) (by rfl) (deed_enters x.op) ?_; go_must (refine calls_of_args (args' := #[.agg #[.slice (some ad) p.length cp, .int .i64 bd, .int .i64 dp, .pointer (some ⟨bf, 0, none⟩)], inV x]) (by simp [Act.eval, inV]) ?_; refine (do_any (some ad) cp p bd dp bf PA pc path f' _ (blk_below YF.out hb5) (Kd.F_now (Kd.F_below (Keep.F YK.out HQF.out (fun k hk => hk)) hb5)) HL.out (Kd.F_now (Kd.F_below (Keep.F YK.out HPF.out (fun k hk => hk)) hb5)) (Bool.and_eq_true _ _ ▸ HF.out).1 fn x HO.out).mono ?_; intro e w5 hD; unfold DoOut at hD; rw [HE.out] at hD; (obtain ⟨av, qv, rfl, hA, hQ, hF5, hK5⟩ := hD); (obtain ⟨Aa, ca, rfl⟩ := Kd.R_slice hA); (obtain ⟨Av, cv, rfl⟩ := Kd.R_slice hQ); (have hK6 : Keep (fun k => k = bf ∨ k = w.heap.size + 1) Y w5 := Keep.trans (Keep.of_below _ hb5) (Keep.mono hK5 (fun k hk => .inl hk))); (have hE5 := hK5.heap (blk_below YE.out hb5) n1); (have zE5 : ∀ j, w5.frozen? ⟨w.heap.size + 1, j, none⟩ = false := fun j => by simp [World.frozen?, hE5]); (have cE5 := fun j => blk_cell hE5 j); unfold effV; dsimp only))); (try simp only [Exit.then]); (try simp only [Act.put, List.setIfInBounds_toArray, List.set_cons_succ, List.set_cons_zero]); refine hK _ _ (fun hz0 => by clear hz0 hSk; (repeat (first | with_reducible exact Keep.refl _ _ | (with_reducible refine Keep.left ?_) | (with_reducible refine Keep.leftN ?_) | (with_reducible assumption) | (with_reducible refine Keep.setCell ?_ ?hs _; case hs => (first | (exact .inl rfl) | (simp; done) | (right; omega) | (right; simp; omega))) | (with_reducible refine Keep.allocs ?_ (by simp; done) _) | (with_reducible refine Keep.alloc ?_ _) | (with_reducible refine Keep.drew ?_) | (with_reducible refine Keep.drewN ?_ _) | refine Keep.thenBelow ?_ (by assumption) | refine Keep.grown ?_ (by assumption) (by intro k hk; (first | (cases hk; done) | (exfalso; simp [Value.ownBlock] at hk; done) | (simp [Value.ownBlock] at hk; subst hk; (first | (right; simp; omega) | (left; first | rfl | simp)))) ) | refine Keep.trans ?_ (by assumption) | (with_reducible refine Keep.allocs ?_ (by simp; done) _) | refine Keep.alloc ?_ _ | refine Keep.drew ?_ | refine Keep.drewN ?_ _ | refine Keep.setCell ?_ (by first | (exact .inl rfl) | (simp; done) | (right; omega) | (right; simp; omega)) _))) (fun hSk1 => ?_); clear hK K hSk; replace hSk1 := hSk1 (by decide); have hSk := hSk1; clear hSk1)
  (refine plan_l 10 rfl (by kernel_rfl) (fun K hK => ?_); go_wp2_with (first | (go_at_call 54; go_must (refine (deeds_look _).mono ?_; rintro e w4 ⟨r, rfl, hm, hb4⟩; (have hl := look_op w4 r x.op HO.out.op1 HO.out.op17 hm); (have hb5 : Below Y.heap.size Y w4 := by (repeat (first | exact Below.refl _ _ | (with_reducible assumption) | refine below_thenB ?_ (by assumption) | refine below_alloc ?_ _ | refine below_drew ?_ | refine pw_below_drewN ?_ _ | refine Below.setCell ?_ (by first | (simp; done) | omega | (simp; omega)) _))))) | (refine goesD (some 67) rfl rfl _ rfl (by rfl) (by rfl) (deed_enters x.op) ?_; go_must (refine calls_of_args (args' := #[.agg #[.slice (some ad) p.length cp, .int .i64 bd, .int .i64 dp, .pointer (some ⟨bf, 0, none⟩)], inV x]) (by simp [Act.eval, inV]) ?_; refine (do_any (some ad) cp p bd dp bf PA pc path f' _ (blk_below YF.out hb5) (Kd.F_now (Kd.F_below (Keep.F YK.out HQF.out (fun k hk => hk)) hb5)) HL.out (Kd.F_now (Kd.F_below (Keep.F YK.out HPF.out (fun k hk => hk)) hb5)) (Bool.and_eq_true _ _ ▸ HF.out).1 fn x HO.out).mono ?_; intro e w5 hD; unfold DoOut at hD; rw [HE.out] at hD; (obtain ⟨av, qv, rfl, hA, hQ, hF5, hK5⟩ := hD); (obtain ⟨Aa, ca, rfl⟩ := Kd.R_slice hA); (obtain ⟨Av, cv, rfl⟩ := Kd.R_slice hQ); (have hK6 : Keep (fun k => k = bf ∨ k = w.heap.size + 1) Y w5 := Keep.trans (Keep.of_below _ hb5) (Keep.mono hK5 (fun k hk => .inl hk))); (have hE5 := hK5.heap (blk_below YE.out hb5) n1); (have zE5 : ∀ j, w5.frozen? ⟨w.heap.size + 1, j, none⟩ = false := fun j => by simp [World.frozen?, hE5]); (have cE5 := fun j => blk_cell hE5 j); unfold effV; dsimp only))); (try simp only [Exit.then]); (try simp only [Act.put, List.setIfInBounds_toArray, List.set_cons_succ, List.set_cons_zero]); refine hK _ _ (fun hz0 => by clear hz0 hSk; (repeat (first | with_reducible exact Keep.refl _ _ | (with_reducible refine Keep.left ?_) | (with_reducible refine Keep.leftN ?_) | (with_reducible assumption) | (with_reducible refine Keep.setCell ?_ ?hs _; case hs => (first | (exact .inl rfl) | (simp; done) | (right; omega) | (right; simp; omega))) | (with_reducible refine Keep.allocs ?_ (by simp; done) _) | (with_reducible refine Keep.alloc ?_ _) | (with_reducible refine Keep.drew ?_) | (with_reducible refine Keep.drewN ?_ _) | refine Keep.thenBelow ?_ (by assumption) | refine Keep.grown ?_ (by assumption) (by intro k hk; (first | (cases hk; done) | (exfalso; simp [Value.ownBlock] at hk; done) | (simp [Value.ownBlock] at hk; subst hk; (first | (right; simp; omega) | (left; first | rfl | simp)))) ) | refine Keep.trans ?_ (by assumption) | (with_reducible refine Keep.allocs ?_ (by simp; done) _) | refine Keep.alloc ?_ _ | refine Keep.drew ?_ | refine Keep.drewN ?_ _ | refine Keep.setCell ?_ (by first | (exact .inl rfl) | (simp; done) | (right; omega) | (right; simp; omega)) _))) (fun hSk1 => ?_); clear hK K hSk; replace hSk1 := hSk1 (by decide); have hSk := hSk1; clear hSk1)
  (refine plan_q 11 rfl (by kernel_rfl) (by kernel_rfl) (by kernel_rfl) rfl rfl (fun _ _ _ _ h => h) hSk (by decide) (by kernel_rfl) (fun K hK => ?_); go_big_quiet_op; with_reducible refine hK _ ?_; clear hK K)
  refine plan_e (by kernel_rfl) ?_
  clear hSk
  go_wp2_with fail
  have hq4 := hb5.size
  have hYK := YK.out
  refine post_put8 hE5 (fun Z cZ kZ fZ => ?_)
  refine bodyPost_ret (v := .tuple #[effV E.kind E.value E.reg E.fn E.hand E.why (.slice Aa E.args.length ca) (.slice Av E.path.length cv), .int .i64 0]) (by simp [results, Try.results24 , go_sem, cZ, effV]) rfl ?_
  rw [HE.out]
  refine ⟨_, _, rfl, ?_, ?_, (fZ bf (Ne.symm n1)).trans hF5, kZ _ _ (Keep.trans (Keep.trans hYK (Keep.of_below _ hb5)) hK5) (.inr (by omega))⟩
  · exact Kd.R_lower (Kd.R_mono (Kd.R_move (Kd.R_bound hA) (fun k hk => fZ k (by have := hk.2.1; omega))) (fun _ _ => trivial)) (by omega)
  · exact Kd.R_lower (Kd.R_mono (Kd.R_move (Kd.R_bound hQ) (fun k hk => fZ k (by have := hk.2.1; omega))) (fun _ _ => trivial)) (by omega)
end Go.Proofs.Ytimmglnbjgbbjaa
namespace Go.Proofs.Ytimmglnbjgbbjaa
open Go.RowKit Go.Proofs.YtimmglnbjgbbjaaW.PrintWords
def codeAt (p : List Fn) (f : Fr) : In := ((p[f.fn.toNat]?.getD zFn).code[f.at_.toNat]?).getD zIn
/-- An effect, an error's number, the frame. -/
def execP (p : List Fn) (bd dp : Int) (path : List Int) (f : Fr) : Ef × Int × Fr :=
  if (progB p && limB bd dp) = false then (zeroE, 1, f) else
  if thereB p f = false then (zeroE, 11, f) else
  if bd ≤ f.steps then (failsE 3, 0, f) else
  ((doP p dp path (codeAt p f) { f with steps := wrap64 (f.steps + 1), at_ := f.at_ + 1 }).1, 0, (doP p dp path (codeAt p f) { f with steps := wrap64 (f.steps + 1), at_ := f.at_ + 1 }).2)
def ExecOut (E : Ef) (err : Int) (f : Fr) (bf : Nat) (pv : Value) (w : World) (en : Ending) (w' : World) : Prop :=
  ∃ av qv, en = .returned (.tuple #[effV E.kind E.value E.reg E.fn E.hand E.why av qv, .int .i64 err]) ∧ Kd.R (Kd.int .i64) 2 w' w.heap.size (fun _ => True) av E.args ∧ Kd.R (Kd.int .i64) 3 w' w.heap.size (fun _ => True) qv E.path ∧
    w'.heap[bf]? = some (.cells (FrB pv f) 80 (0, 0)) ∧ Keep (fun k => k = bf) w w'
theorem there_code {p : List Fn} {f : Fr} (hP : progB p = true) (h : thereB p f = true) : ∃ (i j : Nat) (fn : Fn) (x : In), f.fn = i ∧ p[i]? = some fn ∧ f.at_ = j ∧ fn.code[j]? = some x ∧ codeAt p f = x ∧ InOk p fn x := by
  simp only [thereB, Bool.and_eq_true, decide_eq_true_eq] at h
  obtain ⟨⟨⟨h1, h2⟩, h3⟩, h4⟩ := h
  have hi : f.fn.toNat < p.length := by omega
  have hf := List.getElem?_eq_getElem hi
  rw [hf] at h4
  simp only [Option.getD_some] at h4
  have hj : f.at_.toNat < p[f.fn.toNat].code.length := by omega
  have hx := List.getElem?_eq_getElem hj
  refine ⟨f.fn.toNat, f.at_.toNat, _, _, by omega, hf, by omega, hx, ?_, in_code hP hf hx⟩
  unfold codeAt
  rw [hf, Option.getD_some, hx, Option.getD_some]
theorem exec_any (A : Option Addr) (cp : Nat) (p : List Fn) (bd dp : Int) (w : World) (bf : Nat) (hpF : Kd.F (kFn 34) w (fun k => k ≠ bf) A p.length p) (PA : Option Addr) (pc : Nat) (path : List Int) (f : Fr)
    (hbf : w.heap[bf]? = some (.cells (FrB (.slice PA path.length pc) f) 80 (0, 0))) (hqF : Kd.F (Kd.int .i64) w (fun k => k ≠ bf) PA path.length path) (hpl : path.length ≤ 1000) :
    Calls Try.prog 24 #[.slice A p.length cp, .agg #[.int .i64 bd, .int .i64 dp], .pointer (some ⟨bf, 0, none⟩)] w (ExecOut (execP p bd dp path f).1 (execP p bd dp path f).2.1 (execP p bd dp path f).2.2 bf (.slice PA path.length pc) w) := by
  have hp := Kd.F_now hpF
  by_cases hP : (progB p && limB bd dp) = false
  · rw [show execP p bd dp path f = (zeroE, 1, f) by simp [execP, hP]]
    exact (exec_arg A cp p bd dp w hp _ hP).mono fun en w' ⟨he, hb⟩ => ⟨nilV, nilV, he, Kd.R_nil _ _ _ _ _, Kd.R_nil _ _ _ _ _, blk_below hbf hb, Keep.of_below _ hb⟩
  have hP1 : (progB p && limB bd dp) = true := by simpa using hP
  by_cases hT : thereB p f = false
  · rw [show execP p bd dp path f = (zeroE, 11, f) by unfold execP; rw [if_neg hP, if_pos hT]]
    exact (exec_off A cp p bd dp w hp bf _ f hbf hP1 hT).mono fun en w' ⟨he, hb⟩ => ⟨nilV, nilV, he, Kd.R_nil _ _ _ _ _, Kd.R_nil _ _ _ _ _, blk_below hbf hb, Keep.of_below _ hb⟩
  have hT1 : thereB p f = true := by simpa using hT
  by_cases hs : bd ≤ f.steps
  · rw [show execP p bd dp path f = (failsE 3, 0, f) by unfold execP; rw [if_neg hP, if_neg hT, if_pos hs]]
    exact (exec_budget A cp p bd dp w hp bf _ f hbf hP1 hT1 hs).mono fun en w' ⟨he, hb⟩ => ⟨nilV, nilV, he, Kd.R_nil _ _ _ _ _, Kd.R_nil _ _ _ _ _, blk_below hbf hb, Keep.of_below _ hb⟩
  obtain ⟨i, j, fn, x, hi, hf, hj, hx, hc, hok⟩ := there_code (Bool.and_eq_true _ _ ▸ hP1).1 hT1
  rw [show execP p bd dp path f = ((doP p dp path x { f with steps := wrap64 (f.steps + 1), at_ := (j : Int) + 1 }).1, 0, (doP p dp path x { f with steps := wrap64 (f.steps + 1), at_ := (j : Int) + 1 }).2) by unfold execP; rw [if_neg hP, if_neg hT, if_neg hs, hc, hj]]
  exact exec_go A cp p bd dp w bf hpF PA pc path f hbf hqF hpl hP1 hT1 hs i j fn x hi hf hj hx hok
theorem exec_nil_any (A : Option Addr) (cp : Nat) (p : List Fn) (bd dp : Int) (w : World) (hp : Kd.C (kFn 34) w A p.length p) :
    Calls Try.prog 24 #[.slice A p.length cp, .agg #[.int .i64 bd, .int .i64 dp], .pointer none] w (Refused (if (progB p && limB bd dp) = false then 1 else 11) w) := by
  by_cases hP : (progB p && limB bd dp) = false
  · rw [if_pos hP]; exact exec_arg A cp p bd dp w hp none hP
  · rw [if_neg hP]; exact exec_nil A cp p bd dp w hp (by simpa using hP)
end Go.Proofs.Ytimmglnbjgbbjaa
