/- One instruction of a frame (frame.Exec). No conditions. -/
import Derived.Test.YtimmglnbjgbbjaaLookup2
import Derived.Test.YtimmglnbjgbbjaaThere
import Derived.Deep.DeepMust
set_option linter.unusedSimpArgs false
set_option linter.unusedVariables false
namespace Go.Proofs.Ytimmglnbjgbbjaa
open Go.RowKit Go.Proofs.YtimmglnbjgbbjaaW.PrintWords
abbrev effZ : Array Value := #[.int .i64 0, .int .i64 0, .int .i64 0, .int .i64 0, .int .i64 0, .int .i64 0, nilV, nilV]
/-- The variables of Exec. -/
structure ExSt (w : World) (bd dp : Int) (wx : World) : Prop where
  lim : wx.heap[w.heap.size]? = some (.cells #[.int .i64 bd, .int .i64 dp] 37 (0, 0))
  eff : wx.heap[w.heap.size + 1]? = some (.cells effZ 60 (0, 0))
  bel : Below w.heap.size w wx
theorem ExSt.step {w wx wy : World} {bd dp : Int} (h : ExSt w bd dp wx) (hb : Below wx.heap.size wx wy) : ExSt w bd dp wy := ⟨blk_below h.lim hb, blk_below h.eff hb, below_thenB h.bel hb⟩
theorem ExSt.start (w : World) (bd dp : Int) : ExSt w bd dp ((w.alloc (.cells #[.int .i64 bd, .int .i64 dp] 37)).alloc (.cells effZ 60)) :=
  ⟨heap_lt_alloc (heap_alloc_new _ _), heap_at_alloc (by simp), by (repeat (first | exact Below.refl _ _ | (with_reducible assumption) | refine below_thenB ?_ (by assumption) | refine below_alloc ?_ _ | refine below_drew ?_ | refine pw_below_drewN ?_ _ | refine Below.setCell ?_ (by first | (simp; done) | omega | (simp; omega)) _))⟩
theorem ExSt.facts {w wx : World} {bd dp : Int} (h : ExSt w bd dp wx) : w.heap.size + 1 < wx.heap.size ∧ w.heap.size < wx.heap.size ∧ (∀ j, wx.cell? ⟨w.heap.size, j, none⟩ = (#[Value.int .i64 bd, .int .i64 dp] : Array Value)[j]?) ∧ (∀ j, wx.cell? ⟨w.heap.size + 1, j, none⟩ = effZ[j]?) ∧ ∀ j, wx.frozen? ⟨w.heap.size + 1, j, none⟩ = false :=
  ⟨blk_lt h.eff, blk_lt h.lim, fun j => blk_cell h.lim j, fun j => blk_cell h.eff j, fun j => by simp [World.frozen?, h.eff]⟩
/-- A struct of eight cells is stored, the function's end follows. -/
theorem post_put8 {P : Program} {fn : Func} {Q : Ending → World → Prop} {ex : Exit} {a : Act} {W : World} {g : Nat} {t : TypeId} {a0 a1 a2 a3 a4 a5 a6 a7 b0 b1 b2 b3 b4 b5 b6 b7 : Value} (h : W.heap[g]? = some (.cells #[a0, a1, a2, a3, a4, a5, a6, a7] t (0, 0)))
    (k : ∀ Z : World, (∀ j, Z.cell? ⟨g, j, none⟩ = (#[b0, b1, b2, b3, b4, b5, b6, b7] : Array Value)[j]?) → (∀ (S : Nat → Prop) (w : World), Keep S w W → (S g ∨ w.heap.size ≤ g) → Keep S w Z) → (∀ i, i ≠ g → Z.heap[i]? = W.heap[i]?) → bodyPost P fn Q ex a Z) :
    bodyPost P fn Q ex a ((((((((W.setCell ⟨g, 0, none⟩ b0).setCell ⟨g, 1, none⟩ b1).setCell ⟨g, 2, none⟩ b2).setCell ⟨g, 3, none⟩ b3).setCell ⟨g, 4, none⟩ b4).setCell ⟨g, 5, none⟩ b5).setCell ⟨g, 6, none⟩ b6).setCell ⟨g, 7, none⟩ b7) := by
  refine k _ (fun j => blk_cell (put8 h) j) (fun S w hk hg => keep8 hk hg _ _ _ _ _ _ _ _) (fun i hi => ?_)
  rw [heap_setCell_other _ _ _ _ hi, heap_setCell_other _ _ _ _ hi, heap_setCell_other _ _ _ _ hi, heap_setCell_other _ _ _ _ hi, heap_setCell_other _ _ _ _ hi, heap_setCell_other _ _ _ _ hi, heap_setCell_other _ _ _ _ hi, heap_setCell_other _ _ _ _ hi]
/-- Exec has refused: what it answers. -/
def Refused (err : Int) (w : World) (en : Ending) (w' : World) : Prop := en = .returned (.tuple #[.agg effZ, .int .i64 err]) ∧ Below w.heap.size w w'
section
variable (A : Option Addr) (cp : Nat) (p : List Fn) (bd dp : Int) (w : World) (hp : Kd.C (kFn 34) w A p.length p)
include hp
set_option maxRecDepth 20000 in
set_option maxHeartbeats 1600000 in
theorem exec_arg (pf : Option Addr) (hP : (progB p && limB bd dp) = false) :
    Calls Try.prog 24 #[.slice A p.length cp, .agg #[.int .i64 bd, .int .i64 dp], .pointer pf] w (Refused 1 w) := by
  have HP := Aside0.mk hp
  have HF := Aside0.mk hP
  clear hp hP
  go_enter Try.func24, Try.ntmps24
  go_wp2_with (go_at_call 51; go_must (refine (fright_any A cp p bd dp _ (Kd.C_below HP.out (by (repeat (first | exact Below.refl _ _ | (with_reducible assumption) | refine below_thenB ?_ (by assumption) | refine below_alloc ?_ _ | refine below_drew ?_ | refine pw_below_drewN ?_ _ | refine Below.setCell ?_ (by first | (simp; done) | omega | (simp; omega)) _))))).mono ?_; rintro e w1 ⟨rfl, hb⟩; rw [HF.out]; (obtain ⟨s1, s2, cL, cE, zE⟩ := ((ExSt.start w bd dp).step hb).facts); (have hbw : Below w.heap.size w w1 := by (repeat (first | exact Below.refl _ _ | (with_reducible assumption) | refine below_thenB ?_ (by assumption) | refine below_alloc ?_ _ | refine below_drew ?_ | refine pw_below_drewN ?_ _ | refine Below.setCell ?_ (by first | (simp; done) | omega | (simp; omega)) _)))))
  refine post_put8 ((ExSt.start w bd dp).step hb).eff (fun Z cZ kZ _ => ?_)
  refine bodyPost_ret (v := .tuple #[.agg effZ, .int .i64 1]) (by simp [results, Try.results24 , go_sem, cZ]) rfl ⟨rfl, (kZ (fun _ => False) w (Keep.of_below _ hbw) (.inr (by omega))).below⟩
/-- Where no instruction is. -/
def thereB (p : List Fn) (f : Fr) : Bool := decide (0 ≤ f.fn) && decide (f.fn < (p.length : Int)) && decide (0 ≤ f.at_) && decide (f.at_ < (((p[f.fn.toNat]?.getD zFn).code.length : Nat) : Int))
set_option maxRecDepth 20000 in
set_option maxHeartbeats 1600000 in
theorem exec_nil (hP : (progB p && limB bd dp) = true) :
    Calls Try.prog 24 #[.slice A p.length cp, .agg #[.int .i64 bd, .int .i64 dp], .pointer none] w (Refused 11 w) := by
  have HP := Aside0.mk hp
  have HF := Aside0.mk hP
  clear hp hP
  go_enter Try.func24, Try.ntmps24
  go_wp2_with (first | (go_at_call 51; go_must (refine (fright_any A cp p bd dp _ (Kd.C_below HP.out (by (repeat (first | exact Below.refl _ _ | (with_reducible assumption) | refine below_thenB ?_ (by assumption) | refine below_alloc ?_ _ | refine below_drew ?_ | refine pw_below_drewN ?_ _ | refine Below.setCell ?_ (by first | (simp; done) | omega | (simp; omega)) _))))).mono ?_; rintro e w1 ⟨rfl, hb⟩; rw [HF.out])) | (go_at_call 52; go_must (refine (there_nil _ _).mono ?_; rintro e w2 ⟨rfl, hb2⟩; (obtain ⟨s1, s2, cL, cE, zE⟩ := (((ExSt.start w bd dp).step hb).step hb2).facts); (have hbw : Below w.heap.size w w2 := by (repeat (first | exact Below.refl _ _ | (with_reducible assumption) | refine below_thenB ?_ (by assumption) | refine below_alloc ?_ _ | refine below_drew ?_ | refine pw_below_drewN ?_ _ | refine Below.setCell ?_ (by first | (simp; done) | omega | (simp; omega)) _))))))
  refine post_put8 (((ExSt.start w bd dp).step hb).step hb2).eff (fun Z cZ kZ _ => ?_)
  refine bodyPost_ret (v := .tuple #[.agg effZ, .int .i64 11]) (by simp [results, Try.results24 , go_sem, cZ]) rfl ⟨rfl, (kZ (fun _ => False) w (Keep.of_below _ hbw) (.inr (by omega))).below⟩
theorem there_any (bf : Nat) (pv : Value) (f : Fr) (hbf : w.heap[bf]? = some (.cells (FrB pv f) 80 (0, 0))) : Calls Try.prog 52 #[.slice A p.length cp, .pointer (some ⟨bf, 0, none⟩)] w fun e w' => e = .returned (.bool (thereB p f)) ∧ Below w.heap.size w w' := by
  have hpl := hp.2.1
  by_cases h1 : f.fn < 0
  · rw [show thereB p f = false by simp [thereB]; omega]
    exact there_1 A cp p bf pv f w hbf hpl h1
  by_cases h2 : (p.length : Int) ≤ f.fn
  · rw [show thereB p f = false by simp [thereB]; omega]
    exact there_2 A cp p bf pv f w hbf hpl h2
  by_cases h3 : f.at_ < 0
  · rw [show thereB p f = false by simp [thereB]; omega]
    exact there_3 A cp p bf pv f w hbf hpl (by omega) (by omega) h3
  have hi : f.fn = (f.fn.toNat : Nat) := by omega
  have hl : f.fn.toNat < p.length := by omega
  have hf := List.getElem?_eq_getElem hl
  rw [show thereB p f = decide (f.at_ < (p[f.fn.toNat].code.length : Int)) by simp [thereB, hf]; omega]
  exact there_4 A cp p bf pv f w hbf hpl f.fn.toNat _ hi hf (by omega) hp
set_option maxRecDepth 20000 in
set_option maxHeartbeats 1600000 in
theorem exec_off (bf : Nat) (pv : Value) (f : Fr) (hbf : w.heap[bf]? = some (.cells (FrB pv f) 80 (0, 0))) (hP : (progB p && limB bd dp) = true) (hT : thereB p f = false) :
    Calls Try.prog 24 #[.slice A p.length cp, .agg #[.int .i64 bd, .int .i64 dp], .pointer (some ⟨bf, 0, none⟩)] w (Refused 11 w) := by
  have HP := Aside0.mk hp
  have HF := Aside0.mk hP
  have HB := Aside0.mk hbf
  have HT := Aside0.mk hT
  clear hp hP hbf hT
  go_enter Try.func24, Try.ntmps24
  go_wp2_with (first | (go_at_call 51; go_must (refine (fright_any A cp p bd dp _ (Kd.C_below HP.out (by (repeat (first | exact Below.refl _ _ | (with_reducible assumption) | refine below_thenB ?_ (by assumption) | refine below_alloc ?_ _ | refine below_drew ?_ | refine pw_below_drewN ?_ _ | refine Below.setCell ?_ (by first | (simp; done) | omega | (simp; omega)) _))))).mono ?_; rintro e w1 ⟨rfl, hb⟩; rw [HF.out]; (have hF1 := Aside0.mk (show w1.heap[bf]? = some (.cells (FrB pv f) 80 (0, 0)) from blk_below (by have q := HB.out; (repeat (first | (with_reducible assumption) | (with_reducible refine heap_drew1 ?_) | (with_reducible refine heap_drewN1 ?_) | exact heap_at_alloc (by first | rfl | (simp; done) | (simp; omega)) | (with_reducible refine heap_lt_alloc ?_) | (refine heap_near ?_ (by first | rfl | (simp; done))) | (refine heap_far ?_ (by first | (simp; done) | (simp; omega))) | exact blk_below (by assumption) (by assumption)))) hb)))) | (go_at_call 52; go_must (refine (there_any A cp p _ (Kd.C_below HP.out (by (repeat (first | exact Below.refl _ _ | (with_reducible assumption) | refine below_thenB ?_ (by assumption) | refine below_alloc ?_ _ | refine below_drew ?_ | refine pw_below_drewN ?_ _ | refine Below.setCell ?_ (by first | (simp; done) | omega | (simp; omega)) _)))) bf pv f hF1.out).mono ?_; rintro e w2 ⟨rfl, hb2⟩; rw [HT.out]; (obtain ⟨s1, s2, cL, cE, zE⟩ := (((ExSt.start w bd dp).step hb).step hb2).facts); (have hbw : Below w.heap.size w w2 := by (repeat (first | exact Below.refl _ _ | (with_reducible assumption) | refine below_thenB ?_ (by assumption) | refine below_alloc ?_ _ | refine below_drew ?_ | refine pw_below_drewN ?_ _ | refine Below.setCell ?_ (by first | (simp; done) | omega | (simp; omega)) _))))))
  refine post_put8 (((ExSt.start w bd dp).step hb).step hb2).eff (fun Z cZ kZ _ => ?_)
  refine bodyPost_ret (v := .tuple #[.agg effZ, .int .i64 11]) (by simp [results, Try.results24 , go_sem, cZ]) rfl ⟨rfl, (kZ (fun _ => False) w (Keep.of_below _ hbw) (.inr (by omega))).below⟩
end
end Go.Proofs.Ytimmglnbjgbbjaa
